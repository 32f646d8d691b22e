/- What functions come to: printed by exf.py. -/
import Derived.Test.YtpbkhdeehlikfaaDoorCS
namespace Go.Proofs.YtpbkhdeehlikfaaDoor
set_option linter.unusedVariables false
set_option linter.unusedSimpArgs false
set_option linter.unusedSectionVars false
open Go.RowKit
attribute [local irreducible] dfun dround
/-- quilt/quiltlaw01.CsexpNumbers -/
def H4 : List (Nat × Hint) := []
def J4 : List (Nat × Hint) := []
abbrev S4 : List Sh := [.leaf, .ag [.leaf, .leaf, .leaf]]
abbrev L4 : List Lf := [.int .i64, .bool, .str, .sl .sexp]
def F4 (g : prodL L4) (K : Kn) : Prop :=
  sp17.pre (g.2.1, g.2.2.1, g.2.2.2.1, ()) ∧
  bif grT ⟨g.2.1, g.2.2.1, g.2.2.2.1⟩ then (
    sp11.pre (()) ∧
    K (.bool true) [])
  else (
    sp18.pre (g.1, ()) ∧
  sp19.pre (g.1, ()) ∧
  sp20.pre (g.2.1, g.2.2.1, g.2.2.2.1, ()) ∧
  sp21.pre (g.2.1, g.2.2.1, g.2.2.2.1, ()) ∧
  sp16.pre ((intB g.1).1.isList, (intB g.1).1.atom, (intB g.1).1.list, (intB g.1).1.isList, (intB g.1).1.atom, (intB g.1).1.list, ()) ∧
  bif smR ⟨((intB g.1).1.isList), ((intB g.1).1.atom), ((intB g.1).1.list)⟩ ⟨((intB g.1).1.isList), ((intB g.1).1.atom), ((intB g.1).1.list)⟩ then (
    bif decide ((intB g.1).2 = (intB g.1).2) then (
      bif decide ((nmG ⟨g.2.1, g.2.2.1, g.2.2.2.1⟩).1 = (nmN ⟨g.2.1, g.2.2.1, g.2.2.2.1⟩).1) then (
        bif decide ((nmG ⟨g.2.1, g.2.2.1, g.2.2.2.1⟩).2 = (nmN ⟨g.2.1, g.2.2.1, g.2.2.2.1⟩).2) then (
          sp11.pre (()) ∧
          K (.bool true) [])
        else (
          K (.bool false) []))
      else (
        K (.bool false) []))
    else (
      K (.bool false) []))
  else (
    K (.bool false) []))
theorem F4_eq (g : prodL L4) (K X : Kn) : F4 g K = dfun D (gamX [] [(11, true, sp11), (16, true, sp16), (17, true, sp17), (18, false, sp18), (19, false, sp19), (20, true, sp20), (21, true, sp21)]) (isRaw []) H4 J4 57 [.tmp 4] (codeOf Tryd.f4) (argsT S4 L4 g) [] (settle0 K) X := by kernel_rfl
theorem F4_ok (g : prodL L4) (K X : Kn) (h : F4 g K) : FCalls Tryd.prog 4 (argsT S4 L4 g) [] K X :=
  FCalls.settle0 (dfun_sound (Γ := gamX [] [(11, true, sp11), (16, true, sp16), (17, true, sp17), (18, false, sp18), (19, false, sp19), (20, true, sp20), (21, true, sp21)]) (mu := isRaw []) (H := H4) (J := J4) D_ok (gamX_ok (rs := []) (l := [(11, true, sp11), (16, true, sp16), (17, true, sp17), (18, false, sp18), (19, false, sp19), (20, true, sp20), (21, true, sp21)]) (fun p hp => by cases hp) (by intro p hp; simp only [List.mem_cons, List.not_mem_nil, or_false] at hp; rcases hp with rfl | rfl | rfl | rfl | rfl | rfl | rfl <;> first | exact sp11_ok | exact sp16_ok | exact sp17_ok | exact sp18_ok | exact sp19_ok | exact sp20_ok | exact sp21_ok)) gamX_det rfl Tryd.func4 (c := codeOf Tryd.f4) rfl Tryd.ntmps4 (rs := [.tmp 4]) Tryd.results4 (by unfold enters; rw [Tryd.func4]; kernel_rfl) (Nat.le_of_ble_eq_true (by kernel_rfl)) (X := X) (c0 := 0) (Eq.mp (F4_eq g K X) h))
end Go.Proofs.YtpbkhdeehlikfaaDoor
