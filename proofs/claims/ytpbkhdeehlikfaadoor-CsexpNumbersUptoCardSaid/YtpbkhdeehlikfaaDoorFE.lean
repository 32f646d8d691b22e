/- What functions come to: printed by exf.py. -/
import Derived.Test.YtpbkhdeehlikfaaDoorCG
namespace Go.Proofs.YtpbkhdeehlikfaaDoor
set_option linter.unusedVariables false
set_option linter.unusedSimpArgs false
set_option linter.unusedSectionVars false
open Go.RowKit
attribute [local irreducible] dfun dround
/-- (*quilt/csexp.reader).sexp -/
def H27 : List (Nat × Hint) := [(13, ⟨[((4, []), none), ((7, []), none), ((7, [2]), some .sexp)], [(0, .pt 0 0), (1, .leaf), (4, .pt 1 0), (7, .pt 2 0)], [.cells [.leaf, .leaf, .leaf], .cells [.leaf, .leaf, .nil], .cells [.leaf, .leaf, .oa .sexp 3], .arr .sexp], [.int .i64, .str, .int .i64, .int .i64, .bool, .str, .bool, .str, .sl .sexp]⟩)]
def J27 : List (Nat × Hint) := [(4, ⟨[((4, []), none)], [(0, .pt 0 0), (1, .leaf), (4, .pt 1 0), (5, .leaf), (25, .leaf)], [.cells [.leaf, .leaf, .leaf], .cells [.leaf, .leaf, .nil]], [.int .i64, .int .u8, .bool, .str, .int .i64, .int .i64, .bool, .str]⟩)]
abbrev S27 : List Sh := [.pt 0 0, .leaf]
abbrev L27 : List Lf := [.int .i64, .str, .int .i64, .int .i64]
abbrev O27 : List ObSh := [.cells [.leaf, .leaf, .leaf]]
def rwz27 (Z : prodL L27 → Prop) : Raw := ⟨S27, O27, L27, 0, fun g K X => Z g ∧ sexpF g K X⟩
def F27_B17 (K X : Kn) (Z : prodL L27 → Prop) (W17 : prodL [.int .i64, .str, .int .i64, .int .i64, .bool, .str, .bool, .str, .sl .sexp] → Prop) (level_16 : Int) (o01_16 : ByteArray) (o02_16 : Int) (o03_16 : Int) (t1_16 : Bool) (t2_16 : ByteArray) (out1_16 : Bool) (out2_16 : ByteArray) (out_16 : List Sx) : Prop :=
  nextPre (o01_16, o02_16, o03_16, ()) ∧
  Res.go (headR ((bl o01_16).drop o02_16.toNat)) (fun a18 =>
  bif !decide ((a18.toNat : Int) = 41) then (
    Z (IntKind.i64.wrap (level_16 + 1), o01_16, o02_16, o03_16, ()) ∧
  Res.go (rdS (13 - (IntKind.i64.wrap (level_16 + 1))).toNat o03_16.toNat ((bl o01_16).drop o02_16.toNat)) (fun a20 =>
  Room (out_16.length + [(⟨a20.1.isList, a20.1.atom, a20.1.list⟩ : Sx)].length) 48 (
  W17 (level_16, o01_16, (o01_16.size : Int) - (a20.2.2.length : Int), (a20.2.1 : Int), t1_16, t2_16, out1_16, out2_16, out_16 ++ [(⟨a20.1.isList, a20.1.atom, a20.1.list⟩ : Sx)], ()))) (fun e21 => ∀ (p22 m23 : Int),
  ∀ _ : Tm,
  X (.ic 47 (.ag [.int .i64 e21])) [some (.cells [.str o01_16, .int .i64 p22, .int .i64 m23])]))
  else (
    K (.ag [.bool out1_16, .str out2_16, .sl false .sexp out_16]) [some (.cells [.str o01_16, .int .i64 (IntKind.i64.wrap (o02_16 + 1)), .int .i64 o03_16])])) (fun e19 =>
  X (.ic 47 (.ag [.int .i64 e19])) [some (.cells [.str o01_16, .int .i64 o02_16, .int .i64 o03_16])])
def F27_L17 (K X : Kn) (Z : prodL L27 → Prop) (g : prodL [.int .i64, .str, .int .i64, .int .i64, .bool, .str, .bool, .str, .sl .sexp]) : Prop :=
  LoopW (γ := prodL [.int .i64, .str, .int .i64, .int .i64, .bool, .str, .bool, .str, .sl .sexp]) (fun V y => F27_B17 K X Z V y.1 y.2.1 y.2.2.1 y.2.2.2.1 y.2.2.2.2.1 y.2.2.2.2.2.1 y.2.2.2.2.2.2.1 y.2.2.2.2.2.2.2.1 y.2.2.2.2.2.2.2.2.1) g
def F27_J4 (K X : Kn) (Z : prodL L27 → Prop) (level_3 : Int) (c_3 : Int) (t_3 : Bool) (o01_3 : ByteArray) (o02_3 : Int) (o03_3 : Int) (t1_3 : Bool) (t2_3 : ByteArray) : Prop :=
  bif t_3 then (
    X (.ic 47 (.ag [.int .i64 12])) [some (.cells [.str o01_3, .int .i64 o02_3, .int .i64 o03_3])])
  else (
    bif !decide (c_3 = 40) then (
    nextPre (o01_3, o02_3, o03_3, ()) ∧
    Res.go (numR true 0 ((bl o01_3).drop o02_3.toNat)) (fun a5 =>
    bif decide (IntKind.i64.wrap ((o01_3.size : Int) - ((o01_3.size : Int) - (a5.2.length : Int))) < (a5.1 : Int)) then (
      X (.ic 47 (.ag [.int .i64 11])) [some (.cells [.str o01_3, .int .i64 ((o01_3.size : Int) - (a5.2.length : Int)), .int .i64 o03_3])])
    else (
      (0 : Int) ≤ IntKind.i64.wrap ((IntKind.i64.wrap (((o01_3.size : Int) - (a5.2.length : Int)) + (a5.1 : Int))) - (a5.1 : Int)) ∧ IntKind.i64.wrap ((IntKind.i64.wrap (((o01_3.size : Int) - (a5.2.length : Int)) + (a5.1 : Int))) - (a5.1 : Int)) ≤ IntKind.i64.wrap (((o01_3.size : Int) - (a5.2.length : Int)) + (a5.1 : Int)) ∧ IntKind.i64.wrap (((o01_3.size : Int) - (a5.2.length : Int)) + (a5.1 : Int)) ≤ (o01_3.size : Int) ∧
    K (.ag [.bool false, .str (o01_3.extract (IntKind.i64.wrap ((IntKind.i64.wrap (((o01_3.size : Int) - (a5.2.length : Int)) + (a5.1 : Int))) - (a5.1 : Int))).toNat (IntKind.i64.wrap (((o01_3.size : Int) - (a5.2.length : Int)) + (a5.1 : Int))).toNat), .nil]) [some (.cells [.str o01_3, .int .i64 (IntKind.i64.wrap (((o01_3.size : Int) - (a5.2.length : Int)) + (a5.1 : Int))), .int .i64 o03_3])])) (fun e6 => ∀ p7 : Int,
    X (.ic 47 (.ag [.int .i64 e6])) [some (.cells [.str o01_3, .int .i64 p7, .int .i64 o03_3])]))
  else (
    F27_L17 K X Z (level_3, o01_3, IntKind.i64.wrap (o02_3 + 1), o03_3, t1_3, t2_3, true, (⟨#[]⟩ : ByteArray), [], ())))
def F27 (Z : prodL L27 → Prop) (g : prodL L27) (K X : Kn) : Prop :=
  nextPre (g.2.1, g.2.2.1, g.2.2.2.1, ()) ∧
  Res.go (headR ((bl g.2.1).drop g.2.2.1.toNat)) (fun a1 =>
  bif decide (20000 < IntKind.i64.wrap (g.2.2.2.1 + 1)) then (
    F27_J4 K X Z g.1 (a1.toNat : Int) true g.2.1 g.2.2.1 (IntKind.i64.wrap (g.2.2.2.1 + 1)) false (⟨#[]⟩ : ByteArray))
  else (
    F27_J4 K X Z g.1 (a1.toNat : Int) (decide (12 < g.1)) g.2.1 g.2.2.1 (IntKind.i64.wrap (g.2.2.2.1 + 1)) false (⟨#[]⟩ : ByteArray))) (fun e2 =>
  X (.ic 47 (.ag [.int .i64 e2])) [some (.cells [.str g.2.1, .int .i64 g.2.2.1, .int .i64 g.2.2.2.1])])
theorem F27_eq (Z : prodL L27 → Prop) (g : prodL L27) (K X : Kn) : F27 Z g K X = dfun D (gamX [(27, rwz27 Z), (42, rw42), (43, rw43)] []) (isRaw [(27, rwz27 Z), (42, rw42), (43, rw43)]) H27 J27 98 [.cell 4 25] (codeOf Tryd.f27) (argsT S27 L27 g) (storeT S27 O27 L27 g) (settleG (storeT S27 O27 L27 g).length 0 K) (settleD (storeT S27 O27 L27 g).length 0 X) 0 := by kernel_rfl
theorem F27_ok (Z : prodL L27 → Prop) (hZ : (rwz27 Z).Ok Tryd.prog 27) (g : prodL L27) (K X : Kn) (h : F27 Z g K X) : FCalls Tryd.prog 27 (argsT S27 L27 g) (storeT S27 O27 L27 g) K X 0 :=
  FCalls.settleX (FCalls.settleG (dfun_sound (Γ := gamX [(27, rwz27 Z), (42, rw42), (43, rw43)] []) (mu := isRaw [(27, rwz27 Z), (42, rw42), (43, rw43)]) (H := H27) (J := J27) D_ok (gamX_ok (rs := [(27, rwz27 Z), (42, rw42), (43, rw43)]) (l := []) (by intro p hp; simp only [List.mem_cons, List.not_mem_nil, or_false] at hp; rcases hp with rfl | rfl | rfl <;> first | exact hZ | exact rw42_ok | exact rw43_ok) (fun p hp => by cases hp)) gamX_det rfl Tryd.func27 (c := codeOf Tryd.f27) rfl Tryd.ntmps27 (rs := [.cell 4 25]) Tryd.results27 (by unfold enters; rw [Tryd.func27]; kernel_rfl) (Nat.le_of_ble_eq_true (by kernel_rfl)) (X := (settleD (storeT S27 O27 L27 g).length 0 X)) (c0 := 0) (Eq.mp (F27_eq Z g K X) h)))
end Go.Proofs.YtpbkhdeehlikfaaDoor
