/- What functions come to: printed by exf.py. -/
import Derived.Test.YthjikjhddddplaaFX
namespace Go.Proofs.Ythjikjhddddplaa
set_option linter.unusedVariables false
set_option linter.unusedSimpArgs false
open Go.RowKit
/-- slices.Clone[[]quilt/api.Flight,quilt/api.Flight] -/
def H27 : List (Nat × Hint) := []
def J27 : List (Nat × Hint) := [(3, ⟨[], [(0, .leaf)], [], [.sl .flt]⟩)]
abbrev S27 : List Sh := [.leaf]
abbrev L27 : List Lf := [.sl .flt]
def F27 (g : prodL L27) (K : Kn) : Prop :=
  let J2 : prodL [.sl .flt] → Prop := fun g1 => (
    Room g1.1.length 32 (
    K (.oa .flt 0 0) [some (.arr 0 .flt g1.1)]));
  bif decide (g.1.length = 0) then (
    (K (.oa .flt 0 0) [some (.arr 0 .flt [])]) ∧
  J2 (g.1, ()))
  else (
    J2 (g.1, ()))
theorem F27_eq (g : prodL L27) (K X : Kn) : F27 g K = dfun D (gamX [] []) (isRaw []) H27 J27 8 [.tmp 2] (codeOf Try.f27) (argsT S27 L27 g) [] (settleR (virtR .flt K)) X := by kernel_rfl
theorem F27_ok (g : prodL L27) (K X : Kn) (h : F27 g K) : FCalls Try.prog 27 (argsT S27 L27 g) [] K X :=
  FCalls.virtR (FCalls.settleR (dfun_sound (Γ := gamX [] []) (mu := isRaw []) (H := H27) (J := J27) D_ok (gamX_ok (rs := []) (l := []) (fun p hp => by cases hp) (fun p hp => by cases hp)) gamX_det rfl Try.func27 (c := codeOf Try.f27) rfl Try.ntmps27 Try.results27 (by unfold enters; rw [Try.func27]; kernel_rfl) (Nat.le_of_ble_eq_true (by kernel_rfl)) (X := X) (c0 := 0) (by rw [F27_eq g K X] at h; exact h)))
end Go.Proofs.Ythjikjhddddplaa
