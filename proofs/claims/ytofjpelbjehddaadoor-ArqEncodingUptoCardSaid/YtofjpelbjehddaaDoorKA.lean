/- What functions come to: printed by exf.py. -/
import Derived.Test.YtofjpelbjehddaaDoorX7
import Derived.Test.YtofjpelbjehddaaDoorQ3
namespace Go.Proofs.YtofjpelbjehddaaDoor
set_option linter.unusedVariables false
set_option linter.unusedSimpArgs false
set_option linter.unusedSectionVars false
open Go.RowKit
attribute [local irreducible] dfun dround
/-- quilt/arq.word -/
def H19 : List (Nat × Hint) := []
def J19 : List (Nat × Hint) := []
abbrev S19 : List Sh := [.ag [.leaf, .leaf, .leaf]]
abbrev L19 : List Lf := [.bool, .int .i64, .str]
def F19 (g : prodL L19) (K : Kn) : Prop :=
  bif g.1 then (
    K (.str (⟨#[97, 99, 107]⟩ : ByteArray)) [])
  else (
    K (.str (⟨#[100, 97, 116, 97]⟩ : ByteArray)) [])
theorem F19_eq (g : prodL L19) (K X : Kn) : F19 g K = dfun D (gamX [] []) (isRaw []) H19 J19 5 [.tmp 2] (codeOf Tryd.f19) (argsT S19 L19 g) [] (settle0 K) X := by kernel_rfl
theorem F19_ok (g : prodL L19) (K X : Kn) (h : F19 g K) : FCalls Tryd.prog 19 (argsT S19 L19 g) [] K X :=
  FCalls.settle0 (dfun_sound (Γ := gamX [] []) (mu := isRaw []) (H := H19) (J := J19) D_ok (gamX_ok (rs := []) (l := []) (fun p hp => by cases hp) (fun p hp => by cases hp)) gamX_det rfl Tryd.func19 (c := codeOf Tryd.f19) rfl Tryd.ntmps19 (rs := [.tmp 2]) Tryd.results19 (by unfold enters; rw [Tryd.func19]; kernel_rfl) (Nat.le_of_ble_eq_true (by kernel_rfl)) (X := X) (c0 := 0) (Eq.mp (F19_eq g K X) h))
end Go.Proofs.YtofjpelbjehddaaDoor
