/- What functions come to: printed by exf.py. -/
import Derived.Test.YtoclmkbjgmgekaaDoorP8
namespace Go.Proofs.YtoclmkbjgmgekaaDoor
set_option linter.unusedVariables false
set_option linter.unusedSimpArgs false
set_option linter.unusedSectionVars false
open Go.RowKit
attribute [local irreducible] dfun dround
/-- quilt/quiltlaw50.awake -/
def H11 : List (Nat × Hint) := []
def J11 : List (Nat × Hint) := []
abbrev S11 : List Sh := []
abbrev L11 : List Lf := []
def F11 (g : prodL L11) (K : Kn) : Prop :=
  sp16.pre (2, (⟨#[]⟩ : ByteArray), [], [], [], [], 0, (⟨#[]⟩ : ByteArray), 0, [], [], [], ()) ∧
  sp16.pre (6, (⟨#[]⟩ : ByteArray), [], [], [], [], 7, (⟨#[110, 111]⟩ : ByteArray), 0, [], [], [], ()) ∧
  sp12.pre ([(⟨#[97]⟩ : ByteArray), (⟨#[98]⟩ : ByteArray)], 17, ()) ∧
  sp12.pre ([(⟨#[97]⟩ : ByteArray), (⟨#[98]⟩ : ByteArray)], 16, ()) ∧
  bif decide ((chk (⟨2, (⟨#[]⟩ : ByteArray), [], [], [], [], 0, (⟨#[]⟩ : ByteArray), ⟨0, [], [], []⟩⟩ : Msg)).2 = 0) then (
    bif decide ((chk (⟨6, (⟨#[]⟩ : ByteArray), [], [], [], [], 7, (⟨#[110, 111]⟩ : ByteArray), ⟨0, [], [], []⟩⟩ : Msg)).2 = 0) then (
      bif decide ((batT [(⟨#[97]⟩ : ByteArray), (⟨#[98]⟩ : ByteArray)] 17).2 = 0) then (
        bif decide ((batT [(⟨#[97]⟩ : ByteArray), (⟨#[98]⟩ : ByteArray)] 16).2 = 0) then (
          bif decide ((chk (⟨2, (⟨#[]⟩ : ByteArray), [], [], [], [], 0, (⟨#[]⟩ : ByteArray), ⟨0, [], [], []⟩⟩ : Msg)).1 = (⟨#[40, 52, 58, 119, 97, 110, 116, 41]⟩ : ByteArray)) then (
            bif decide ((chk (⟨6, (⟨#[]⟩ : ByteArray), [], [], [], [], 7, (⟨#[110, 111]⟩ : ByteArray), ⟨0, [], [], []⟩⟩ : Msg)).1 = (⟨#[40, 53, 58, 114, 101, 112, 108, 121, 49, 58, 55, 50, 58, 110, 111, 41]⟩ : ByteArray)) then (
              bif decide (((((batT [(⟨#[97]⟩ : ByteArray), (⟨#[98]⟩ : ByteArray)] 17).1).length : Nat) : Int) = 1) then (
                K (.bool (decide (((((batT [(⟨#[97]⟩ : ByteArray), (⟨#[98]⟩ : ByteArray)] 16).1).length : Nat) : Int) = 2))) [])
              else (
                K (.bool false) []))
            else (
              K (.bool false) []))
          else (
            K (.bool false) []))
        else (
          K (.bool false) []))
      else (
        K (.bool false) []))
    else (
      K (.bool false) []))
  else (
    K (.bool false) [])
theorem F11_eq (g : prodL L11) (K X : Kn) : F11 g K = dfun D (gamX [] [(12, false, sp12), (16, true, sp16)]) (isRaw []) H11 J11 61 [.tmp 0] (codeOf Tryd.f11) (argsT S11 L11 g) [] (settle0 K) X := by kernel_rfl
theorem F11_ok (g : prodL L11) (K X : Kn) (h : F11 g K) : FCalls Tryd.prog 11 (argsT S11 L11 g) [] K X :=
  FCalls.settle0 (dfun_sound (Γ := gamX [] [(12, false, sp12), (16, true, sp16)]) (mu := isRaw []) (H := H11) (J := J11) D_ok (gamX_ok (rs := []) (l := [(12, false, sp12), (16, true, sp16)]) (fun p hp => by cases hp) (by intro p hp; simp only [List.mem_cons, List.not_mem_nil, or_false] at hp; rcases hp with rfl | rfl <;> first | exact sp12_ok | exact sp16_ok)) gamX_det rfl Tryd.func11 (c := codeOf Tryd.f11) rfl Tryd.ntmps11 (rs := [.tmp 0]) Tryd.results11 (by unfold enters; rw [Tryd.func11]; kernel_rfl) (Nat.le_of_ble_eq_true (by kernel_rfl)) (X := X) (c0 := 0) (Eq.mp (F11_eq g K X) h))
end Go.Proofs.YtoclmkbjgmgekaaDoor
