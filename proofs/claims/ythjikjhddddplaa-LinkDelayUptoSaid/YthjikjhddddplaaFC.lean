/- What functions come to: printed by exf.py. -/
import Derived.Test.YthjikjhddddplaaFU
namespace Go.Proofs.Ythjikjhddddplaa
set_option linter.unusedVariables false
set_option linter.unusedSimpArgs false
open Go.RowKit
/-- slices.IndexFunc[[]int,int] -/
def H34 : List (Nat × Hint) := [(2, ⟨[], [(0, .leaf), (1, .fn 30 [] []), (7, .leaf), (8, .leaf)], [], [.sl .i64, .int .i64, .int .i64]⟩)]
def J34 : List (Nat × Hint) := []
abbrev S34 : List Sh := [.leaf, .fn 30 [] []]
abbrev L34 : List Lf := [.sl .i64]
def F34 (g : prodL L34) (K : Kn) : Prop :=
  LoopW (γ := prodL [.sl .i64, .int .i64, .int .i64]) (fun W2 g1 =>
    bif decide (g1.2.2.1 < g1.2.1) then (
      At g1.1 g1.2.2.1 fun u3 =>
    sp30.pre (u3, ()) ∧
    bif decide (u3 < 0) then (
      K (.int .i64 g1.2.2.1) [])
    else (
      W2 (g1.1, g1.2.1, IntKind.i64.wrap (g1.2.2.1 + 1), ())))
    else (
      K (.int .i64 (-1)) [])) (g.1, (g.1.length : Int), 0, ())
theorem F34_eq (g : prodL L34) (K X : Kn) : F34 g K = dfun D (gamX [] [(30, true, sp30)]) (isRaw []) H34 J34 19 [.tmp 4] (codeOf Try.f34) (argsT S34 L34 g) [] (settle0 K) X := by kernel_rfl
theorem F34_ok (g : prodL L34) (K X : Kn) (h : F34 g K) : FCalls Try.prog 34 (argsT S34 L34 g) [] K X :=
  FCalls.settle0 (dfun_sound (Γ := gamX [] [(30, true, sp30)]) (mu := isRaw []) (H := H34) (J := J34) D_ok (gamX_ok (rs := []) (l := [(30, true, sp30)]) (fun p hp => by cases hp) (by intro p hp; simp only [List.mem_cons, List.not_mem_nil, or_false] at hp; subst hp; exact sp30_ok)) gamX_det rfl Try.func34 (c := codeOf Try.f34) rfl Try.ntmps34 Try.results34 (by unfold enters; rw [Try.func34]; kernel_rfl) (Nat.le_of_ble_eq_true (by kernel_rfl)) (X := X) (c0 := 0) (by rw [F34_eq g K X] at h; exact h))
end Go.Proofs.Ythjikjhddddplaa
