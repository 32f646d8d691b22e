/- What functions come to: printed by exf.py. -/
import Derived.Test.YtpbkhdeehlikfaaDoorCN
namespace Go.Proofs.YtpbkhdeehlikfaaDoor
set_option linter.unusedVariables false
set_option linter.unusedSimpArgs false
set_option linter.unusedSectionVars false
open Go.RowKit
attribute [local irreducible] dfun dround
/-- quilt/quiltref01.Great -/
def H17 : List (Nat × Hint) := []
def J17 : List (Nat × Hint) := []
abbrev S17 : List Sh := [.ag [.leaf, .leaf, .leaf]]
abbrev L17 : List Lf := [.bool, .str, .sl .sexp]
def F17 (g : prodL L17) (K : Kn) : Prop :=
  sp29.pre (g.1, g.2.1, g.2.2.1, 60, 20, ()) ∧
  bif decide (60 < cnt ⟨g.1, g.2.1, g.2.2.1⟩ 60 20) then (
    K (.bool true) [])
  else (
    sp30.pre (g.1, g.2.1, g.2.2.1, ()) ∧
    K (.bool (lgR ⟨g.1, g.2.1, g.2.2.1⟩)) [])
theorem F17_eq (g : prodL L17) (K X : Kn) : F17 g K = dfun D (gamX [] [(29, true, sp29), (30, true, sp30)]) (isRaw []) H17 J17 10 [.tmp 2] (codeOf Tryd.f17) (argsT S17 L17 g) [] (settle0 K) X := by kernel_rfl
theorem F17_ok (g : prodL L17) (K X : Kn) (h : F17 g K) : FCalls Tryd.prog 17 (argsT S17 L17 g) [] K X :=
  FCalls.settle0 (dfun_sound (Γ := gamX [] [(29, true, sp29), (30, true, sp30)]) (mu := isRaw []) (H := H17) (J := J17) D_ok (gamX_ok (rs := []) (l := [(29, true, sp29), (30, true, sp30)]) (fun p hp => by cases hp) (by intro p hp; simp only [List.mem_cons, List.not_mem_nil, or_false] at hp; rcases hp with rfl | rfl <;> first | exact sp29_ok | exact sp30_ok)) gamX_det rfl Tryd.func17 (c := codeOf Tryd.f17) rfl Tryd.ntmps17 (rs := [.tmp 2]) Tryd.results17 (by unfold enters; rw [Tryd.func17]; kernel_rfl) (Nat.le_of_ble_eq_true (by kernel_rfl)) (X := X) (c0 := 0) (Eq.mp (F17_eq g K X) h))
/-- quilt/quiltlaw01.awake -/
def H11 : List (Nat × Hint) := []
def J11 : List (Nat × Hint) := []
abbrev S11 : List Sh := []
abbrev L11 : List Lf := []
def F11 (g : prodL L11) (K : Kn) : Prop :=
  sp14.pre ((⟨#[40, 51, 58, 97, 98, 99, 50, 58, 45, 55, 41]⟩ : ByteArray), ()) ∧
  bif !decide (((((dcT (⟨#[40, 51, 58, 97, 98, 99, 50, 58, 45, 55, 41]⟩ : ByteArray)).1.list).length : Nat) : Int) = 2) then (
    K (.bool false) [])
  else (
    At ((dcT (⟨#[40, 51, 58, 97, 98, 99, 50, 58, 45, 55, 41]⟩ : ByteArray)).1.list) 1 fun u1 =>
  sp20.pre (u1.isList, u1.atom, u1.list, ()) ∧
  sp14.pre ((⟨#[40, 51, 58, 97, 98]⟩ : ByteArray), ()) ∧
  sp14.pre ((⟨#[48, 51, 58, 97, 98, 99]⟩ : ByteArray), ()) ∧
  bif decide ((dcT (⟨#[40, 51, 58, 97, 98, 99, 50, 58, 45, 55, 41]⟩ : ByteArray)).2 = 0) then (
    bif decide ((nmG ⟨u1.isList, u1.atom, u1.list⟩).2 = 0) then (
      bif decide ((nmG ⟨u1.isList, u1.atom, u1.list⟩).1 = (-7)) then (
        At ((dcT (⟨#[40, 51, 58, 97, 98, 99, 50, 58, 45, 55, 41]⟩ : ByteArray)).1.list) 0 fun u2 =>
        bif decide (u2.atom = (⟨#[97, 98, 99]⟩ : ByteArray)) then (
          bif decide ((dcT (⟨#[40, 51, 58, 97, 98]⟩ : ByteArray)).2 = 11) then (
            K (.bool (decide ((dcT (⟨#[48, 51, 58, 97, 98, 99]⟩ : ByteArray)).2 = 12))) [])
          else (
            K (.bool false) []))
        else (
          K (.bool false) []))
      else (
        K (.bool false) []))
    else (
      K (.bool false) []))
  else (
    K (.bool false) []))
theorem F11_eq (g : prodL L11) (K X : Kn) : F11 g K = dfun D (gamX [] [(14, false, sp14), (20, true, sp20)]) (isRaw []) H11 J11 59 [.tmp 0] (codeOf Tryd.f11) (argsT S11 L11 g) [] (settle0 K) X := by kernel_rfl
theorem F11_ok (g : prodL L11) (K X : Kn) (h : F11 g K) : FCalls Tryd.prog 11 (argsT S11 L11 g) [] K X :=
  FCalls.settle0 (dfun_sound (Γ := gamX [] [(14, false, sp14), (20, true, sp20)]) (mu := isRaw []) (H := H11) (J := J11) D_ok (gamX_ok (rs := []) (l := [(14, false, sp14), (20, true, sp20)]) (fun p hp => by cases hp) (by intro p hp; simp only [List.mem_cons, List.not_mem_nil, or_false] at hp; rcases hp with rfl | rfl <;> first | exact sp14_ok | exact sp20_ok)) gamX_det rfl Tryd.func11 (c := codeOf Tryd.f11) rfl Tryd.ntmps11 (rs := [.tmp 0]) Tryd.results11 (by unfold enters; rw [Tryd.func11]; kernel_rfl) (Nat.le_of_ble_eq_true (by kernel_rfl)) (X := X) (c0 := 0) (Eq.mp (F11_eq g K X) h))
end Go.Proofs.YtpbkhdeehlikfaaDoor
