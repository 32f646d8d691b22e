/- What functions come to: printed by exf.py. -/
import Derived.Test.YtofjpelbjehddaaFE2
namespace Go.Proofs.Ytofjpelbjehddaa
set_option linter.unusedVariables false
set_option linter.unusedSimpArgs false
set_option linter.unusedSectionVars false
open Go.RowKit
attribute [local irreducible] dfun dround
/-- quilt/arq.Poll -/
def H15 : List (Nat × Hint) := []
def J15 : List (Nat × Hint) := [(2, ⟨[((2, []), none), ((3, []), none), ((4, []), none)], [(2, .pt 0 0), (3, .pt 1 0), (4, .pt 2 0), (16, .leaf)], [.cells [.leaf, .leaf, .leaf, .leaf], .cells [.leaf], .cells [.leaf, .leaf, .nil, .nil]], [.bool, .int .i64, .int .i64, .sl .str, .sl .i64, .int .i64, .int .i64, .int .i64]⟩)]
abbrev S15 : List Sh := [.ag [.leaf, .leaf, .leaf, .leaf], .leaf]
abbrev L15 : List Lf := [.int .i64, .int .i64, .sl .str, .sl .i64, .int .i64]
def F15_J16 (K : Kn) (W6 : prodL [.int .i64, .int .i64, .int .i64, .int .i64, .sl .str, .sl .i64, .int .i64, .int .i64, .int .i64, .sl .str, .sl .i64, .int .i64, .sl .i64, .sl .frm] → Prop) (t_15 : Int) (t2_15 : Int) (o01_15 : Int) (o02_15 : Int) (o03_15 : List ByteArray) (o04_15 : List Int) (o1_15 : Int) (o41_15 : Int) (o42_15 : Int) (o43_15 : List ByteArray) (o44_15 : List Int) (o5_15 : Int) (o6_15 : List Int) (yield_15 : List Frm) : Prop :=
  W6 (t_15, IntKind.i64.wrap (t2_15 + 1), o01_15, o02_15, o03_15, o04_15, o1_15, o41_15, o42_15, o43_15, o44_15, o5_15, o6_15, yield_15, ())
def F15_B6 (K : Kn) (W6 : prodL [.int .i64, .int .i64, .int .i64, .int .i64, .sl .str, .sl .i64, .int .i64, .int .i64, .int .i64, .sl .str, .sl .i64, .int .i64, .sl .i64, .sl .frm] → Prop) (t_5 : Int) (t2_5 : Int) (o01_5 : Int) (o02_5 : Int) (o03_5 : List ByteArray) (o04_5 : List Int) (o1_5 : Int) (o41_5 : Int) (o42_5 : Int) (o43_5 : List ByteArray) (o44_5 : List Int) (o5_5 : Int) (o6_5 : List Int) (yield_5 : List Frm) : Prop :=
  bif decide (t2_5 < t_5) then (
    At o44_5 t2_5 fun u7 =>
  bif decide (u7 < 0) then (
    let g8 : prodL [.int .i64, .int .i64, .int .i64, .sl .str, .sl .i64, .int .i64, .sl .i64, .sl .frm] := (t2_5, o01_5, o02_5, o03_5, o04_5, o1_5, o6_5, yield_5, ());
    0 ≤ g8.1 ∧ g8.1.toNat < g8.2.2.2.2.2.2.1.length ∧
    atI g8.2.2.2.2.2.2.1 g8.1.toNat fun x9 =>
    At g8.2.2.2.1 g8.1 fun u10 =>
    Room (g8.2.2.2.2.2.2.2.1.length + [(⟨false, (IntKind.i64.wrap (g8.2.1 + g8.1)), u10⟩ : Frm)].length) 32 (
    F15_J16 K W6 t_5 t2_5 g8.2.1 g8.2.2.1 g8.2.2.2.1 g8.2.2.2.2.1 g8.2.2.2.2.2.1 o41_5 o42_5 o43_5 o44_5 o5_5 (g8.2.2.2.2.2.2.1.set g8.1.toNat g8.2.2.2.2.2.1) (g8.2.2.2.2.2.2.2.1 ++ [(⟨false, (IntKind.i64.wrap (g8.2.1 + g8.1)), u10⟩ : Frm)])))
  else (
    At o44_5 t2_5 fun u11 =>
    bif decide (4 ≤ IntKind.i64.wrap (o5_5 - u11)) then (
      let g12 : prodL [.int .i64, .int .i64, .int .i64, .sl .str, .sl .i64, .int .i64, .sl .i64, .sl .frm] := (t2_5, o01_5, o02_5, o03_5, o04_5, o1_5, o6_5, yield_5, ());
      0 ≤ g12.1 ∧ g12.1.toNat < g12.2.2.2.2.2.2.1.length ∧
      atI g12.2.2.2.2.2.2.1 g12.1.toNat fun x13 =>
      At g12.2.2.2.1 g12.1 fun u14 =>
      Room (g12.2.2.2.2.2.2.2.1.length + [(⟨false, (IntKind.i64.wrap (g12.2.1 + g12.1)), u14⟩ : Frm)].length) 32 (
      F15_J16 K W6 t_5 t2_5 g12.2.1 g12.2.2.1 g12.2.2.2.1 g12.2.2.2.2.1 g12.2.2.2.2.2.1 o41_5 o42_5 o43_5 o44_5 o5_5 (g12.2.2.2.2.2.2.1.set g12.1.toNat g12.2.2.2.2.2.1) (g12.2.2.2.2.2.2.2.1 ++ [(⟨false, (IntKind.i64.wrap (g12.2.1 + g12.1)), u14⟩ : Frm)])))
    else (
      F15_J16 K W6 t_5 t2_5 o01_5 o02_5 o03_5 o04_5 o1_5 o41_5 o42_5 o43_5 o44_5 o5_5 o6_5 yield_5)))
  else (
    K (.tu [.ag [.int .i64 o01_5, .int .i64 o02_5, .sl false .str o03_5, .sl false .i64 o6_5], .sl false .frm yield_5]) [])
def F15_L6 (K : Kn) (g : prodL [.int .i64, .int .i64, .int .i64, .int .i64, .sl .str, .sl .i64, .int .i64, .int .i64, .int .i64, .sl .str, .sl .i64, .int .i64, .sl .i64, .sl .frm]) : Prop :=
  LoopW (γ := prodL [.int .i64, .int .i64, .int .i64, .int .i64, .sl .str, .sl .i64, .int .i64, .int .i64, .int .i64, .sl .str, .sl .i64, .int .i64, .sl .i64, .sl .frm]) (fun V y => F15_B6 K V y.1 y.2.1 y.2.2.1 y.2.2.2.1 y.2.2.2.2.1 y.2.2.2.2.2.1 y.2.2.2.2.2.2.1 y.2.2.2.2.2.2.2.1 y.2.2.2.2.2.2.2.2.1 y.2.2.2.2.2.2.2.2.2.1 y.2.2.2.2.2.2.2.2.2.2.1 y.2.2.2.2.2.2.2.2.2.2.2.1 y.2.2.2.2.2.2.2.2.2.2.2.2.1 y.2.2.2.2.2.2.2.2.2.2.2.2.2.1) g
def F15_J2 (K : Kn) (t_1 : Bool) (s1_1 : Int) (s2_1 : Int) (s3_1 : List ByteArray) (s4_1 : List Int) (clock_1 : Int) (t1_1 : Int) (t2_1 : Int) : Prop :=
  bif t_1 then (
    K (.tu [.ag [.int .i64 s1_1, .int .i64 s2_1, .sl false .str s3_1, .sl false .i64 s4_1], .nil]) [])
  else (
    sp30.pre (s4_1, ()) ∧
  let g3 : prodL [.int .i64, .int .i64, .sl .str, .sl .i64, .int .i64] := (s1_1, s2_1, s3_1, s4_1, clock_1, ());
  let g4 : prodL [.int .i64, .int .i64, .sl .str, .sl .i64, .int .i64, .int .i64, .int .i64, .sl .str, .sl .i64, .int .i64, .sl .i64] := (s1_1, s2_1, s3_1, s4_1, clock_1, g3.1, g3.2.1, g3.2.2.1, g3.2.2.2.1, g3.2.2.2.2.1, s4_1, ());
  F15_L6 K (if (g4.2.2.2.2.2.2.2.1.length : Int) < g4.2.2.2.2.2.2.1 then (g4.2.2.2.2.2.2.2.1.length : Int) else g4.2.2.2.2.2.2.1, 0, g4.1, g4.2.1, g4.2.2.1, g4.2.2.2.1, g4.2.2.2.2.1, g4.2.2.2.2.2.1, g4.2.2.2.2.2.2.1, g4.2.2.2.2.2.2.2.1, g4.2.2.2.2.2.2.2.2.1, g4.2.2.2.2.2.2.2.2.2.1, g4.2.2.2.2.2.2.2.2.2.2.1, [], ()))
def F15 (g : prodL L15) (K : Kn) : Prop :=
  sp19.pre (g.1, g.2.1, g.2.2.1, g.2.2.2.1, ()) ∧
  bif !decide (Snd.err ⟨g.1, g.2.1, g.2.2.1, g.2.2.2.1⟩ = 0) then (
    F15_J2 K true g.1 g.2.1 g.2.2.1 g.2.2.2.1 g.2.2.2.2.1 0 0)
  else (
    sp32.pre (g.2.2.2.2.1, ()) ∧
    F15_J2 K (!(okN g.2.2.2.2.1)) g.1 g.2.1 g.2.2.1 g.2.2.2.1 g.2.2.2.2.1 0 0)
theorem F15_eq (g : prodL L15) (K X : Kn) : F15 g K = dfun D (gamX [(33, rw33), (44, rw44)] [(19, true, sp19), (30, false, sp30), (32, true, sp32)]) (isRaw [(33, rw33), (44, rw44)]) H15 J15 46 [.cell 4 25, .tmp 5] (codeOf Try.f15) (argsT S15 L15 g) [] (settle0 K) X 0 1015000 := by kernel_rfl
theorem F15_ok (g : prodL L15) (K X : Kn) (h : F15 g K) : FCalls Try.prog 15 (argsT S15 L15 g) [] K X :=
  FCalls.settle0 (dfun_sound (Γ := gamX [(33, rw33), (44, rw44)] [(19, true, sp19), (30, false, sp30), (32, true, sp32)]) (mu := isRaw [(33, rw33), (44, rw44)]) (H := H15) (J := J15) D_ok (gamX_ok (rs := [(33, rw33), (44, rw44)]) (l := [(19, true, sp19), (30, false, sp30), (32, true, sp32)]) (by intro p hp; simp only [List.mem_cons, List.not_mem_nil, or_false] at hp; rcases hp with rfl | rfl <;> first | exact rw33_ok | exact rw44_ok) (by intro p hp; simp only [List.mem_cons, List.not_mem_nil, or_false] at hp; rcases hp with rfl | rfl | rfl <;> first | exact sp19_ok | exact sp30_ok | exact sp32_ok)) gamX_det rfl Try.func15 (c := codeOf Try.f15) rfl Try.ntmps15 (rs := [.cell 4 25, .tmp 5]) Try.results15 (by unfold enters; rw [Try.func15]; kernel_rfl) (Nat.le_of_ble_eq_true (by kernel_rfl)) (X := X) (c0 := 0) (Eq.mp (F15_eq g K X) h) (yOk_of_keys [7] (by kernel_rfl) (by kernel_rfl)))
end Go.Proofs.Ytofjpelbjehddaa
