/- What functions come to: printed by exf.py. -/
import Derived.Test.YthjikjhddddplaaFT
namespace Go.Proofs.Ythjikjhddddplaa
set_option linter.unusedVariables false
set_option linter.unusedSimpArgs false
open Go.RowKit
/-- quilt/link.Check$1 -/
def H30 : List (Nat × Hint) := []
def J30 : List (Nat × Hint) := []
abbrev S30 : List Sh := [.leaf]
abbrev L30 : List Lf := [.int .i64]
def F30 (g : prodL L30) (K : Kn) : Prop :=
  K (.bool (decide (g.1 < 0))) []
theorem F30_eq (g : prodL L30) (K X : Kn) : F30 g K = dfun D (gamX [] []) (isRaw []) H30 J30 5 [.tmp 2] (codeOf Try.f30) (argsT S30 L30 g) [] (settle0 K) X := by kernel_rfl
theorem F30_ok (g : prodL L30) (K X : Kn) (h : F30 g K) : FCalls Try.prog 30 (argsT S30 L30 g) [] K X :=
  FCalls.settle0 (dfun_sound (Γ := gamX [] []) (mu := isRaw []) (H := H30) (J := J30) D_ok (gamX_ok (rs := []) (l := []) (fun p hp => by cases hp) (fun p hp => by cases hp)) gamX_det rfl Try.func30 (c := codeOf Try.f30) rfl Try.ntmps30 Try.results30 (by unfold enters; rw [Try.func30]; kernel_rfl) (Nat.le_of_ble_eq_true (by kernel_rfl)) (X := X) (c0 := 0) (by rw [F30_eq g K X] at h; exact h))
end Go.Proofs.Ythjikjhddddplaa
