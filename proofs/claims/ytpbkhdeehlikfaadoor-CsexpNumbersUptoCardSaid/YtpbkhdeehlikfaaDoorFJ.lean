/- What functions come to: printed by exf.py. -/
import Derived.Test.YtpbkhdeehlikfaaDoorCO
namespace Go.Proofs.YtpbkhdeehlikfaaDoor
set_option linter.unusedVariables false
set_option linter.unusedSimpArgs false
set_option linter.unusedSectionVars false
open Go.RowKit
attribute [local irreducible] dfun dround
/-- quilt/quiltlaw01.CsexpRead -/
def H3 : List (Nat × Hint) := []
def J3 : List (Nat × Hint) := []
abbrev S3 : List Sh := [.leaf]
abbrev L3 : List Lf := [.str]
def F3 (g : prodL L3) (K : Kn) : Prop :=
  bif decide (300 < (g.1.size : Int)) then (
    sp11.pre (()) ∧
    K (.bool true) [])
  else (
    sp12.pre (g.1, ()) ∧
  sp13.pre (g.1, ()) ∧
  sp14.pre (g.1, ()) ∧
  sp15.pre (g.1, ()) ∧
  sp16.pre ((rdT g.1).1.isList, (rdT g.1).1.atom, (rdT g.1).1.list, (rdT g.1).1.isList, (rdT g.1).1.atom, (rdT g.1).1.list, ()) ∧
  bif smR ⟨((rdT g.1).1.isList), ((rdT g.1).1.atom), ((rdT g.1).1.list)⟩ ⟨((rdT g.1).1.isList), ((rdT g.1).1.atom), ((rdT g.1).1.list)⟩ then (
    bif decide ((rdT g.1).2.1 = (rdT g.1).2.1) then (
      bif decide ((rdT g.1).2.2 = (rdT g.1).2.2) then (
        sp16.pre ((dcT g.1).1.isList, (dcT g.1).1.atom, (dcT g.1).1.list, (dcT g.1).1.isList, (dcT g.1).1.atom, (dcT g.1).1.list, ()) ∧
        bif smR ⟨((dcT g.1).1.isList), ((dcT g.1).1.atom), ((dcT g.1).1.list)⟩ ⟨((dcT g.1).1.isList), ((dcT g.1).1.atom), ((dcT g.1).1.list)⟩ then (
          bif decide ((dcT g.1).2 = (dcT g.1).2) then (
            sp11.pre (()) ∧
            K (.bool true) [])
          else (
            K (.bool false) []))
        else (
          K (.bool false) []))
      else (
        K (.bool false) []))
    else (
      K (.bool false) []))
  else (
    K (.bool false) []))
theorem F3_eq (g : prodL L3) (K X : Kn) : F3 g K = dfun D (gamX [] [(11, true, sp11), (12, false, sp12), (13, false, sp13), (14, false, sp14), (15, false, sp15), (16, true, sp16)]) (isRaw []) H3 J3 65 [.tmp 2] (codeOf Tryd.f3) (argsT S3 L3 g) [] (settle0 K) X := by kernel_rfl
theorem F3_ok (g : prodL L3) (K X : Kn) (h : F3 g K) : FCalls Tryd.prog 3 (argsT S3 L3 g) [] K X :=
  FCalls.settle0 (dfun_sound (Γ := gamX [] [(11, true, sp11), (12, false, sp12), (13, false, sp13), (14, false, sp14), (15, false, sp15), (16, true, sp16)]) (mu := isRaw []) (H := H3) (J := J3) D_ok (gamX_ok (rs := []) (l := [(11, true, sp11), (12, false, sp12), (13, false, sp13), (14, false, sp14), (15, false, sp15), (16, true, sp16)]) (fun p hp => by cases hp) (by intro p hp; simp only [List.mem_cons, List.not_mem_nil, or_false] at hp; rcases hp with rfl | rfl | rfl | rfl | rfl | rfl <;> first | exact sp11_ok | exact sp12_ok | exact sp13_ok | exact sp14_ok | exact sp15_ok | exact sp16_ok)) gamX_det rfl Tryd.func3 (c := codeOf Tryd.f3) rfl Tryd.ntmps3 (rs := [.tmp 2]) Tryd.results3 (by unfold enters; rw [Tryd.func3]; kernel_rfl) (Nat.le_of_ble_eq_true (by kernel_rfl)) (X := X) (c0 := 0) (Eq.mp (F3_eq g K X) h))
/-- quilt/quiltlaw01.CsexpInts -/
def H5 : List (Nat × Hint) := []
def J5 : List (Nat × Hint) := [(7, ⟨[], [(1, .leaf), (44, .leaf)], [], [.str, .bool]⟩), (9, ⟨[], [(1, .leaf), (54, .leaf)], [], [.str, .bool]⟩), (10, ⟨[], [(1, .leaf)], [], [.str]⟩)]
abbrev S5 : List Sh := [.leaf, .leaf]
abbrev L5 : List Lf := [.int .i64, .str]
def F5_J6 (K : Kn) (s_5 : ByteArray) : Prop :=
  sp20.pre (false, s_5, [], ()) ∧
  bif decide ((nmG ⟨false, s_5, []⟩).2 = 0) then (
    sp18.pre ((nmG ⟨false, s_5, []⟩).1, ()) ∧
    bif decide ((intB ((nmG ⟨false, s_5, []⟩).1)).2 = 0) then (
      bif decide ((intB ((nmG ⟨false, s_5, []⟩).1)).1.atom = s_5) then (
        sp11.pre (()) ∧
        K (.bool true) [])
      else (
        K (.bool false) []))
    else (
      K (.bool false) []))
  else (
    sp11.pre (()) ∧
  K (.bool true) [])
def F5_J2 (K : Kn) (s_1 : ByteArray) (t_1 : Bool) : Prop :=
  bif t_1 then (
      K (.bool false) [])
    else (
      F5_J6 K s_1)
def F5_J4 (K : Kn) (s_3 : ByteArray) (t_3 : Bool) : Prop :=
  bif t_3 then (
      K (.bool false) [])
    else (
      F5_J6 K s_3)
def F5 (g : prodL L5) (K : Kn) : Prop :=
  bif decide (200 < (g.2.1.size : Int)) then (
    sp11.pre (()) ∧
    K (.bool true) [])
  else (
    sp18.pre (g.1, ()) ∧
  bif decide ((intB g.1).2 = 0) then (
    sp20.pre ((intB g.1).1.isList, (intB g.1).1.atom, (intB g.1).1.list, ()) ∧
    bif !decide ((nmG ⟨((intB g.1).1.isList), ((intB g.1).1.atom), ((intB g.1).1.list)⟩).2 = 0) then (
      F5_J2 K g.2.1 true)
    else (
      bif !decide ((nmG ⟨((intB g.1).1.isList), ((intB g.1).1.atom), ((intB g.1).1.list)⟩).1 = g.1) then (
        F5_J2 K g.2.1 true)
      else (
        bif (intB g.1).1.isList then (
          F5_J2 K g.2.1 true)
        else (
          sp22.pre ((intB g.1).1.isList, (intB g.1).1.atom, (intB g.1).1.list, ()) ∧
          F5_J2 K g.2.1 (!decide (ckG ⟨((intB g.1).1.isList), ((intB g.1).1.atom), ((intB g.1).1.list)⟩ = 0))))))
  else (
    bif !decide ((intB g.1).2 = 2) then (
      F5_J4 K g.2.1 true)
    else (
      bif decide ((-1099511627776) ≤ g.1) then (
        F5_J4 K g.2.1 (decide (g.1 ≤ 1099511627776)))
      else (
        F5_J4 K g.2.1 false))))
theorem F5_eq (g : prodL L5) (K X : Kn) : F5 g K = dfun D (gamX [] [(11, true, sp11), (18, false, sp18), (20, true, sp20), (22, true, sp22)]) (isRaw []) H5 J5 80 [.tmp 4] (codeOf Tryd.f5) (argsT S5 L5 g) [] (settle0 K) X := by kernel_rfl
theorem F5_ok (g : prodL L5) (K X : Kn) (h : F5 g K) : FCalls Tryd.prog 5 (argsT S5 L5 g) [] K X :=
  FCalls.settle0 (dfun_sound (Γ := gamX [] [(11, true, sp11), (18, false, sp18), (20, true, sp20), (22, true, sp22)]) (mu := isRaw []) (H := H5) (J := J5) D_ok (gamX_ok (rs := []) (l := [(11, true, sp11), (18, false, sp18), (20, true, sp20), (22, true, sp22)]) (fun p hp => by cases hp) (by intro p hp; simp only [List.mem_cons, List.not_mem_nil, or_false] at hp; rcases hp with rfl | rfl | rfl | rfl <;> first | exact sp11_ok | exact sp18_ok | exact sp20_ok | exact sp22_ok)) gamX_det rfl Tryd.func5 (c := codeOf Tryd.f5) rfl Tryd.ntmps5 (rs := [.tmp 4]) Tryd.results5 (by unfold enters; rw [Tryd.func5]; kernel_rfl) (Nat.le_of_ble_eq_true (by kernel_rfl)) (X := X) (c0 := 0) (Eq.mp (F5_eq g K X) h))
end Go.Proofs.YtpbkhdeehlikfaaDoor
