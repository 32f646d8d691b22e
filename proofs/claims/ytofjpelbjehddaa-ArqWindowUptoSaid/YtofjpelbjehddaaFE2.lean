/- What functions come to: printed by exf.py. -/
import Derived.Test.YtofjpelbjehddaaFE1
namespace Go.Proofs.Ytofjpelbjehddaa
set_option linter.unusedVariables false
set_option linter.unusedSimpArgs false
set_option linter.unusedSectionVars false
open Go.RowKit
attribute [local irreducible] dfun dround
/-- quilt/arq.due$1 -/
def H44 : List (Nat × Hint) := [(1, ⟨[((0, [3, 0]), some .frm)], [(0, .fn 1015007 [] [.pt 0 0, .pt 1 0, .pt 2 0, .pt 3 0]), (1, .pt 4 0), (2, .pt 5 0), (10, .leaf), (11, .leaf)], [.cells [.leaf, .leaf, .leaf, .leaf], .cells [.leaf], .cells [.oa .i64 6], .cells [.oa .frm 7], .cells [.leaf, .leaf, .leaf, .leaf], .cells [.leaf], .arr .i64, .arr .frm], [.int .i64, .int .i64, .int .i64, .int .i64, .sl .str, .sl .i64, .int .i64, .int .i64, .int .i64, .sl .str, .sl .i64, .int .i64, .sl .i64, .sl .frm]⟩)]
def J44 : List (Nat × Hint) := [(4, ⟨[((0, [3, 0]), none)], [(0, .fn 1015007 [] [.pt 0 0, .pt 1 0, .pt 2 0, .pt 3 0]), (1, .pt 4 0), (2, .pt 5 0), (10, .leaf), (11, .leaf)], [.cells [.leaf, .leaf, .leaf, .leaf], .cells [.leaf], .cells [.oa .i64 6], .cells [.oa .frm 7], .cells [.leaf, .leaf, .leaf, .leaf], .cells [.leaf], .arr .i64, .arr .frm], [.int .i64, .int .i64, .int .i64, .int .i64, .sl .str, .sl .i64, .int .i64, .int .i64, .int .i64, .sl .str, .sl .i64, .int .i64, .sl .i64, .sl .frm]⟩)]
abbrev S44 : List Sh := [.fn 1015007 [] [.pt 0 0, .pt 1 0, .pt 2 0, .pt 3 0], .pt 4 0, .pt 5 0]
abbrev L44 : List Lf := [.int .i64, .int .i64, .sl .str, .sl .i64, .int .i64, .int .i64, .int .i64, .sl .str, .sl .i64, .int .i64, .sl .i64]
abbrev O44 : List ObSh := [.cells [.leaf, .leaf, .leaf, .leaf], .cells [.leaf], .cells [.oa .i64 6], .cells [.nil], .cells [.leaf, .leaf, .leaf, .leaf], .cells [.leaf], .arr .i64]
def F44_J12 (K : Kn) (W2 : prodL [.int .i64, .int .i64, .int .i64, .int .i64, .sl .str, .sl .i64, .int .i64, .int .i64, .int .i64, .sl .str, .sl .i64, .int .i64, .sl .i64, .sl .frm] → Prop) (t_11 : Int) (t2_11 : Int) (o01_11 : Int) (o02_11 : Int) (o03_11 : List ByteArray) (o04_11 : List Int) (o1_11 : Int) (o41_11 : Int) (o42_11 : Int) (o43_11 : List ByteArray) (o44_11 : List Int) (o5_11 : Int) (o6_11 : List Int) (yield_11 : List Frm) : Prop :=
  W2 (t_11, IntKind.i64.wrap (t2_11 + 1), o01_11, o02_11, o03_11, o04_11, o1_11, o41_11, o42_11, o43_11, o44_11, o5_11, o6_11, yield_11, ())
def F44_B2 (K : Kn) (W2 : prodL [.int .i64, .int .i64, .int .i64, .int .i64, .sl .str, .sl .i64, .int .i64, .int .i64, .int .i64, .sl .str, .sl .i64, .int .i64, .sl .i64, .sl .frm] → Prop) (t_1 : Int) (t2_1 : Int) (o01_1 : Int) (o02_1 : Int) (o03_1 : List ByteArray) (o04_1 : List Int) (o1_1 : Int) (o41_1 : Int) (o42_1 : Int) (o43_1 : List ByteArray) (o44_1 : List Int) (o5_1 : Int) (o6_1 : List Int) (yield_1 : List Frm) : Prop :=
  bif decide (t2_1 < t_1) then (
    At o44_1 t2_1 fun u3 =>
  bif decide (u3 < 0) then (
    let g4 : prodL [.int .i64, .int .i64, .int .i64, .sl .str, .sl .i64, .int .i64, .sl .i64, .sl .frm] := (t2_1, o01_1, o02_1, o03_1, o04_1, o1_1, o6_1, yield_1, ());
    0 ≤ g4.1 ∧ g4.1.toNat < g4.2.2.2.2.2.2.1.length ∧
    atI g4.2.2.2.2.2.2.1 g4.1.toNat fun x5 =>
    At g4.2.2.2.1 g4.1 fun u6 =>
    Room (g4.2.2.2.2.2.2.2.1.length + [(⟨false, (IntKind.i64.wrap (g4.2.1 + g4.1)), u6⟩ : Frm)].length) 32 (
    F44_J12 K W2 t_1 t2_1 g4.2.1 g4.2.2.1 g4.2.2.2.1 g4.2.2.2.2.1 g4.2.2.2.2.2.1 o41_1 o42_1 o43_1 o44_1 o5_1 (g4.2.2.2.2.2.2.1.set g4.1.toNat g4.2.2.2.2.2.1) (g4.2.2.2.2.2.2.2.1 ++ [(⟨false, (IntKind.i64.wrap (g4.2.1 + g4.1)), u6⟩ : Frm)])))
  else (
    At o44_1 t2_1 fun u7 =>
    bif decide (4 ≤ IntKind.i64.wrap (o5_1 - u7)) then (
      let g8 : prodL [.int .i64, .int .i64, .int .i64, .sl .str, .sl .i64, .int .i64, .sl .i64, .sl .frm] := (t2_1, o01_1, o02_1, o03_1, o04_1, o1_1, o6_1, yield_1, ());
      0 ≤ g8.1 ∧ g8.1.toNat < g8.2.2.2.2.2.2.1.length ∧
      atI g8.2.2.2.2.2.2.1 g8.1.toNat fun x9 =>
      At g8.2.2.2.1 g8.1 fun u10 =>
      Room (g8.2.2.2.2.2.2.2.1.length + [(⟨false, (IntKind.i64.wrap (g8.2.1 + g8.1)), u10⟩ : Frm)].length) 32 (
      F44_J12 K W2 t_1 t2_1 g8.2.1 g8.2.2.1 g8.2.2.2.1 g8.2.2.2.2.1 g8.2.2.2.2.2.1 o41_1 o42_1 o43_1 o44_1 o5_1 (g8.2.2.2.2.2.2.1.set g8.1.toNat g8.2.2.2.2.2.1) (g8.2.2.2.2.2.2.2.1 ++ [(⟨false, (IntKind.i64.wrap (g8.2.1 + g8.1)), u10⟩ : Frm)])))
    else (
      F44_J12 K W2 t_1 t2_1 o01_1 o02_1 o03_1 o04_1 o1_1 o41_1 o42_1 o43_1 o44_1 o5_1 o6_1 yield_1)))
  else (
    K (.tu []) [some (.cells [.int .i64 o01_1, .int .i64 o02_1, .sl false .str o03_1, .sl false .i64 o04_1]), some (.cells [.int .i64 o1_1]), some (.cells [.oa .i64 6 0]), some (.cells [.oa .frm 7 0]), some (.cells [.int .i64 o41_1, .int .i64 o42_1, .sl false .str o43_1, .sl false .i64 o44_1]), some (.cells [.int .i64 o5_1]), some (.arr 0 .i64 o6_1), some (.arr 0 .frm yield_1)])
def F44_L2 (K : Kn) (g : prodL [.int .i64, .int .i64, .int .i64, .int .i64, .sl .str, .sl .i64, .int .i64, .int .i64, .int .i64, .sl .str, .sl .i64, .int .i64, .sl .i64, .sl .frm]) : Prop :=
  LoopW (γ := prodL [.int .i64, .int .i64, .int .i64, .int .i64, .sl .str, .sl .i64, .int .i64, .int .i64, .int .i64, .sl .str, .sl .i64, .int .i64, .sl .i64, .sl .frm]) (fun V y => F44_B2 K V y.1 y.2.1 y.2.2.1 y.2.2.2.1 y.2.2.2.2.1 y.2.2.2.2.2.1 y.2.2.2.2.2.2.1 y.2.2.2.2.2.2.2.1 y.2.2.2.2.2.2.2.2.1 y.2.2.2.2.2.2.2.2.2.1 y.2.2.2.2.2.2.2.2.2.2.1 y.2.2.2.2.2.2.2.2.2.2.2.1 y.2.2.2.2.2.2.2.2.2.2.2.2.1 y.2.2.2.2.2.2.2.2.2.2.2.2.2.1) g
def F44 (g : prodL L44) (K : Kn) : Prop :=
  F44_L2 K (if (g.2.2.2.2.2.2.2.1.length : Int) < g.2.2.2.2.2.2.1 then (g.2.2.2.2.2.2.2.1.length : Int) else g.2.2.2.2.2.2.1, 0, g.1, g.2.1, g.2.2.1, g.2.2.2.1, g.2.2.2.2.1, g.2.2.2.2.2.1, g.2.2.2.2.2.2.1, g.2.2.2.2.2.2.2.1, g.2.2.2.2.2.2.2.2.1, g.2.2.2.2.2.2.2.2.2.1, g.2.2.2.2.2.2.2.2.2.2.1, [], ())
theorem F44_eq (g : prodL L44) (K X : Kn) : F44 g K = dfun D (gamX [(1015007, rw1015007)] []) (isRaw [(1015007, rw1015007)]) H44 J44 37 [] (codeOf Try.f44) (argsT S44 L44 g) (storeT S44 O44 L44 g) (settleD (storeT S44 O44 L44 g).length 0 K) X 0 := by kernel_rfl
theorem F44_ok (g : prodL L44) (K X : Kn) (h : F44 g K) : FCalls Try.prog 44 (argsT S44 L44 g) (storeT S44 O44 L44 g) K X 0 :=
  FCalls.settleD (dfun_sound (Γ := gamX [(1015007, rw1015007)] []) (mu := isRaw [(1015007, rw1015007)]) (H := H44) (J := J44) D_ok (gamX_ok (rs := [(1015007, rw1015007)]) (l := []) (by intro p hp; simp only [List.mem_cons, List.not_mem_nil, or_false] at hp; subst hp; exact rw1015007_ok) (fun p hp => by cases hp)) gamX_det rfl Try.func44 (c := codeOf Try.f44) rfl Try.ntmps44 (rs := []) Try.results44 (by unfold enters; rw [Try.func44]; kernel_rfl) (Nat.le_of_ble_eq_true (by kernel_rfl)) (X := X) (c0 := 0) (Eq.mp (F44_eq g K X) h))
def rw44 : Raw := ⟨S44, O44, L44, 0, fun g K _ => F44 g K⟩
theorem rw44_ok : rw44.Ok Try.prog 44 := fun g K X h => F44_ok g K X h
end Go.Proofs.Ytofjpelbjehddaa
