/- What functions come to: printed by exf.py. -/
import Derived.Test.YthjikjhddddplaaFV
namespace Go.Proofs.Ythjikjhddddplaa
set_option linter.unusedVariables false
set_option linter.unusedSimpArgs false
open Go.RowKit
/-- slices.ContainsFunc[[]int,int] -/
def H29 : List (Nat × Hint) := []
def J29 : List (Nat × Hint) := []
abbrev S29 : List Sh := [.leaf, .fn 30 [] []]
abbrev L29 : List Lf := [.sl .i64]
def F29 (g : prodL L29) (K : Kn) : Prop :=
  sp34.pre (g.1, ()) ∧
  K (.bool (decide (0 ≤ negIx g.1))) []
theorem F29_eq (g : prodL L29) (K X : Kn) : F29 g K = dfun D (gamX [] [(34, true, sp34)]) (isRaw []) H29 J29 9 [.tmp 4] (codeOf Try.f29) (argsT S29 L29 g) [] (settle0 K) X := by kernel_rfl
theorem F29_ok (g : prodL L29) (K X : Kn) (h : F29 g K) : FCalls Try.prog 29 (argsT S29 L29 g) [] K X :=
  FCalls.settle0 (dfun_sound (Γ := gamX [] [(34, true, sp34)]) (mu := isRaw []) (H := H29) (J := J29) D_ok (gamX_ok (rs := []) (l := [(34, true, sp34)]) (fun p hp => by cases hp) (by intro p hp; simp only [List.mem_cons, List.not_mem_nil, or_false] at hp; subst hp; exact sp34_ok)) gamX_det rfl Try.func29 (c := codeOf Try.f29) rfl Try.ntmps29 Try.results29 (by unfold enters; rw [Try.func29]; kernel_rfl) (Nat.le_of_ble_eq_true (by kernel_rfl)) (X := X) (c0 := 0) (by rw [F29_eq g K X] at h; exact h))
/-- quilt/quiltref46.Check -/
def H15 : List (Nat × Hint) := [(6, ⟨[((1, []), none)], [(1, .pt 0 0), (3, .leaf)], [.cells [.leaf, .leaf, .leaf]], [.int .i64, .int .i64, .sl .flt, .sl .i64]⟩), (14, ⟨[((1, []), none)], [(1, .pt 0 0), (5, .leaf)], [.cells [.leaf, .leaf, .leaf]], [.int .i64, .int .i64, .sl .flt, .sl .i64]⟩)]
def J15 : List (Nat × Hint) := [(2, ⟨[((1, []), none)], [(1, .pt 0 0), (13, .leaf)], [.cells [.leaf, .leaf, .leaf]], [.bool, .int .i64, .sl .flt, .sl .i64]⟩)]
abbrev S15 : List Sh := [.ag [.leaf, .leaf, .leaf]]
abbrev L15 : List Lf := [.int .i64, .sl .flt, .sl .i64]
def F15 (g : prodL L15) (K : Kn) : Prop :=
  let J2 : prodL [.bool, .int .i64, .sl .flt, .sl .i64] → Prop := fun g1 => (
    bif g1.1 then (
      K (.int .i64 2) [])
    else (
      bif decide (1000 < (g1.2.2.1.length : Int)) then (
    K (.int .i64 17) [])
  else (
    LoopW (γ := prodL [.int .i64, .int .i64, .sl .flt, .sl .i64]) (fun W4 g3 =>
    bif decide (g3.1 < (g3.2.2.1.length : Int)) then (
      At g3.2.2.1 g3.1 fun u5 =>
    sp31.pre (u5.pkt.to, u5.pkt.data, u5.due, g3.2.1, ()) ∧
    bif !decide (fltErr g3.2.1 ⟨⟨u5.pkt.to, u5.pkt.data⟩, u5.due⟩ = 0) then (
      K (.int .i64 (fltErr g3.2.1 ⟨⟨u5.pkt.to, u5.pkt.data⟩, u5.due⟩)) [])
    else (
      W4 (IntKind.i64.wrap (g3.1 + 1), g3.2.1, g3.2.2.1, g3.2.2.2.1, ())))
    else (
      bif decide (1000 < (g3.2.2.2.1.length : Int)) then (
    K (.int .i64 17) [])
  else (
    LoopW (γ := prodL [.int .i64, .int .i64, .sl .flt, .sl .i64]) (fun W7 g6 =>
    bif decide (g6.1 < (g6.2.2.2.1.length : Int)) then (
      At g6.2.2.2.1 g6.1 fun u8 =>
    bif decide (u8 < 0) then (
      K (.int .i64 2) [])
    else (
      W7 (IntKind.i64.wrap (g6.1 + 1), g6.2.1, g6.2.2.1, g6.2.2.2.1, ())))
    else (
      K (.int .i64 0) [])) (0, g3.2.1, g3.2.2.1, g3.2.2.2.1, ())))) (0, g1.2.1, g1.2.2.1, g1.2.2.2.1, ()))));
  bif decide (g.1 < 0) then (
    J2 (true, g.1, g.2.1, g.2.2.1, ()))
  else (
    J2 (decide (1099511627776 < g.1), g.1, g.2.1, g.2.2.1, ()))
theorem F15_eq (g : prodL L15) (K X : Kn) : F15 g K = dfun D (gamX [] [(31, true, sp31)]) (isRaw []) H15 J15 53 [.tmp 2] (codeOf Try.f15) (argsT S15 L15 g) [] (settle0 K) X := by kernel_rfl
theorem F15_ok (g : prodL L15) (K X : Kn) (h : F15 g K) : FCalls Try.prog 15 (argsT S15 L15 g) [] K X :=
  FCalls.settle0 (dfun_sound (Γ := gamX [] [(31, true, sp31)]) (mu := isRaw []) (H := H15) (J := J15) D_ok (gamX_ok (rs := []) (l := [(31, true, sp31)]) (fun p hp => by cases hp) (by intro p hp; simp only [List.mem_cons, List.not_mem_nil, or_false] at hp; subst hp; exact sp31_ok)) gamX_det rfl Try.func15 (c := codeOf Try.f15) rfl Try.ntmps15 Try.results15 (by unfold enters; rw [Try.func15]; kernel_rfl) (Nat.le_of_ble_eq_true (by kernel_rfl)) (X := X) (c0 := 0) (by rw [F15_eq g K X] at h; exact h))
end Go.Proofs.Ythjikjhddddplaa
