/- What functions come to: printed by exf.py. -/
import Derived.Test.YthjikjhddddplaaFY
namespace Go.Proofs.Ythjikjhddddplaa
set_option linter.unusedVariables false
set_option linter.unusedSimpArgs false
open Go.RowKit
/-- quilt/link.Send -/
def H12 : List (Nat × Hint) := [(12, ⟨[((2, []), none), ((3, []), none), ((4, []), none), ((2, [1]), none)], [(2, .pt 0 0), (3, .pt 1 0), (4, .pt 2 0), (37, .leaf), (38, .leaf), (39, .leaf)], [.cells [.leaf, .oa .flt 3, .leaf], .cells [.leaf, .leaf], .cells [.leaf, .nil, .nil], .arr .flt], [.sl .i64, .int .i64, .int .i64, .int .i64, .sl .i64, .int .i64, .str, .int .i64, .sl .flt]⟩)]
def J12 : List (Nat × Hint) := [(10, ⟨[((2, []), none), ((3, []), none), ((4, []), none)], [(2, .pt 0 0), (3, .pt 1 0), (4, .pt 2 0), (7, .leaf)], [.cells [.leaf, .leaf, .leaf], .cells [.leaf, .leaf], .cells [.leaf, .nil, .nil]], [.int .i64, .int .i64, .sl .flt, .sl .i64, .int .i64, .str, .int .i64]⟩)]
abbrev S12 : List Sh := [.ag [.leaf, .leaf, .leaf], .ag [.leaf, .leaf]]
abbrev L12 : List Lf := [.int .i64, .sl .flt, .sl .i64, .int .i64, .str]
def F12 (g : prodL L12) (K : Kn) : Prop :=
  sp14.pre (g.1, g.2.1, g.2.2.1, ()) ∧
  bif !decide (Lnk.err ⟨g.1, g.2.1, g.2.2.1⟩ = 0) then (
    K (.tu [.ag [.int .i64 0, .nil, .nil], .int .i64 1]) [])
  else (
    sp26.pre (g.2.2.2.1, g.2.2.2.2.1, ()) ∧
  bif !decide (pktErr ⟨g.2.2.2.1, g.2.2.2.2.1⟩ = 0) then (
    K (.tu [.ag [.int .i64 0, .nil, .nil], .int .i64 (pktErr ⟨g.2.2.2.1, g.2.2.2.2.1⟩)]) [])
  else (
    let J6 : prodL [.int .i64, .int .i64, .sl .flt, .sl .i64, .int .i64, .str, .int .i64] → Prop := fun g2 => (
    sp27.pre (g2.2.2.1, ()) ∧
    sp28.pre (g2.1, ()) ∧
    LoopW (γ := prodL [.sl .i64, .int .i64, .int .i64, .int .i64, .sl .i64, .int .i64, .str, .int .i64, .sl .flt]) (fun W4 g3 =>
      bif decide (g3.2.2.1 < g3.2.1) then (
        At g3.1 g3.2.2.1 fun u5 =>
      Room (g3.2.2.2.2.2.2.2.2.1.length + [(⟨⟨g3.2.2.2.2.2.1, g3.2.2.2.2.2.2.1⟩, (IntKind.i64.wrap (g3.2.2.2.1 + u5))⟩ : Flt)].length) 32 (
      W4 (g3.1, g3.2.1, IntKind.i64.wrap (g3.2.2.1 + 1), g3.2.2.2.1, g3.2.2.2.2.1, g3.2.2.2.2.2.1, g3.2.2.2.2.2.2.1, g3.2.2.2.2.2.2.2.1, g3.2.2.2.2.2.2.2.2.1 ++ [(⟨⟨g3.2.2.2.2.2.1, g3.2.2.2.2.2.2.1⟩, (IntKind.i64.wrap (g3.2.2.2.1 + u5))⟩ : Flt)], ())))
      else (
        bif decide (1000 < (g3.2.2.2.2.2.2.2.2.1.length : Int)) then (
      K (.tu [.ag [.int .i64 0, .nil, .nil], .int .i64 17]) [])
    else (
      K (.tu [.ag [.int .i64 g3.2.2.2.1, .sl false .flt g3.2.2.2.2.2.2.2.2.1, .sl false .i64 g3.2.2.2.2.1], .int .i64 0]) []))) (delaysOf g2.1, (((delaysOf g2.1).length : Nat) : Int), 0, g2.2.1, g2.2.2.2.1, g2.2.2.2.2.1, g2.2.2.2.2.2.1, g2.2.2.2.2.2.2.1, g2.2.2.1, ()));
  bif decide (0 < (g.2.2.1.length : Int)) then (
    At g.2.2.1 0 fun u1 =>
    (0 : Int) ≤ 1 ∧ 1 ≤ (g.2.2.1.length : Int) ∧
    J6 (u1, g.1, g.2.1, g.2.2.1.drop ((1 : Int).toNat), g.2.2.2.1, g.2.2.2.2.1, 0, ()))
  else (
    J6 (1, g.1, g.2.1, g.2.2.1, g.2.2.2.1, g.2.2.2.2.1, 0, ()))))
theorem F12_eq (g : prodL L12) (K X : Kn) : F12 g K = dfun D (gamX [] [(14, true, sp14), (26, true, sp26), (27, false, sp27), (28, false, sp28)]) (isRaw []) H12 J12 61 [.cell 4 25, .tmp 5] (codeOf Try.f12) (argsT S12 L12 g) [] (settle0 K) X := by kernel_rfl
theorem F12_ok (g : prodL L12) (K X : Kn) (h : F12 g K) : FCalls Try.prog 12 (argsT S12 L12 g) [] K X :=
  FCalls.settle0 (dfun_sound (Γ := gamX [] [(14, true, sp14), (26, true, sp26), (27, false, sp27), (28, false, sp28)]) (mu := isRaw []) (H := H12) (J := J12) D_ok (gamX_ok (rs := []) (l := [(14, true, sp14), (26, true, sp26), (27, false, sp27), (28, false, sp28)]) (fun p hp => by cases hp) (by intro p hp; simp only [List.mem_cons, List.not_mem_nil, or_false] at hp; rcases hp with rfl | rfl | rfl | rfl <;> first | exact sp14_ok | exact sp26_ok | exact sp27_ok | exact sp28_ok)) gamX_det rfl Try.func12 (c := codeOf Try.f12) rfl Try.ntmps12 Try.results12 (by unfold enters; rw [Try.func12]; kernel_rfl) (Nat.le_of_ble_eq_true (by kernel_rfl)) (X := X) (c0 := 0) (by rw [F12_eq g K X] at h; exact h))
end Go.Proofs.Ythjikjhddddplaa
