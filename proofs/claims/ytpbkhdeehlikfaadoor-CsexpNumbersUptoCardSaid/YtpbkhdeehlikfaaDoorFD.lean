/- What functions come to: printed by exf.py. -/
import Derived.Test.YtpbkhdeehlikfaaDoorCG
namespace Go.Proofs.YtpbkhdeehlikfaaDoor
set_option linter.unusedVariables false
set_option linter.unusedSimpArgs false
set_option linter.unusedSectionVars false
open Go.RowKit
attribute [local irreducible] dfun dround
/-- (quilt/quiltref01.reader).read -/
def H28 : List (Nat × Hint) := [(13, ⟨[((2, []), none), ((4, []), none), ((5, []), none), ((8, []), none), ((8, [2]), some .sexp)], [(1, .leaf), (2, .pt 0 0), (4, .pt 1 0), (5, .pt 2 0), (8, .pt 3 0)], [.cells [.leaf, .leaf, .leaf, .leaf], .cells [.leaf, .leaf, .nil], .cells [.leaf, .leaf, .leaf, .leaf], .cells [.leaf, .leaf, .oa .sexp 4], .arr .sexp], [.int .i64, .str, .int .i64, .int .i64, .int .i64, .bool, .str, .str, .int .i64, .int .i64, .int .i64, .bool, .str, .sl .sexp]⟩)]
def J28 : List (Nat × Hint) := [(5, ⟨[((2, []), none), ((4, []), none), ((5, []), none)], [(1, .leaf), (2, .pt 0 0), (4, .pt 1 0), (5, .pt 2 0), (26, .leaf)], [.cells [.leaf, .leaf, .leaf, .leaf], .cells [.leaf, .leaf, .nil], .cells [.leaf, .leaf, .leaf, .leaf]], [.int .i64, .bool, .str, .int .i64, .int .i64, .int .i64, .bool, .str, .str, .int .i64, .int .i64, .int .i64]⟩), (10, ⟨[((4, []), none), ((5, []), none), ((7, []), none)], [(4, .pt 0 0), (5, .pt 1 0), (6, .leaf), (7, .pt 2 0)], [.cells [.leaf, .leaf, .nil], .cells [.leaf, .leaf, .leaf, .leaf], .cells [.leaf, .leaf, .leaf, .leaf]], [.str, .bool, .str, .str, .int .i64, .int .i64, .int .i64, .str, .int .i64, .int .i64, .int .i64]⟩), (14, ⟨[((2, []), none), ((4, []), none), ((5, []), none), ((8, []), none), ((8, [2]), none)], [(1, .leaf), (2, .pt 0 0), (4, .pt 1 0), (5, .pt 2 0), (8, .pt 3 0)], [.cells [.leaf, .leaf, .leaf, .leaf], .cells [.leaf, .leaf, .nil], .cells [.leaf, .leaf, .leaf, .leaf], .cells [.leaf, .leaf, .oa .sexp 4], .arr .sexp], [.int .i64, .str, .int .i64, .int .i64, .int .i64, .bool, .str, .str, .int .i64, .int .i64, .int .i64, .bool, .str, .sl .sexp]⟩), (15, ⟨[((2, []), none), ((4, []), none), ((5, []), none), ((8, []), none), ((9, []), none), ((10, []), none), ((8, [2]), none)], [(1, .leaf), (2, .pt 0 0), (4, .pt 1 0), (5, .pt 2 0), (8, .pt 3 0), (9, .pt 4 0), (10, .pt 5 0)], [.cells [.leaf, .leaf, .leaf, .leaf], .cells [.leaf, .leaf, .nil], .cells [.leaf, .leaf, .leaf, .leaf], .cells [.leaf, .leaf, .oa .sexp 6], .cells [.leaf, .leaf, .leaf], .cells [.leaf, .leaf, .leaf, .leaf], .arr .sexp], [.int .i64, .str, .int .i64, .int .i64, .int .i64, .bool, .str, .str, .int .i64, .int .i64, .int .i64, .bool, .str, .bool, .str, .sl .sexp, .str, .int .i64, .int .i64, .int .i64, .sl .sexp]⟩), (17, ⟨[((2, []), none), ((4, []), none), ((5, []), none), ((8, []), none), ((10, []), none), ((8, [2]), none)], [(1, .leaf), (2, .pt 0 0), (4, .pt 1 0), (5, .pt 2 0), (8, .pt 3 0), (10, .pt 4 0)], [.cells [.leaf, .leaf, .leaf, .leaf], .cells [.leaf, .leaf, .nil], .cells [.leaf, .leaf, .leaf, .leaf], .cells [.leaf, .leaf, .oa .sexp 5], .cells [.leaf, .leaf, .leaf, .leaf], .arr .sexp], [.int .i64, .str, .int .i64, .int .i64, .int .i64, .bool, .str, .str, .int .i64, .int .i64, .int .i64, .bool, .str, .str, .int .i64, .int .i64, .int .i64, .sl .sexp]⟩), (19, ⟨[((2, []), none), ((4, []), none), ((5, []), none), ((8, []), none), ((10, []), none), ((8, [2]), none)], [(1, .leaf), (2, .pt 0 0), (4, .pt 1 0), (5, .pt 2 0), (8, .pt 3 0), (10, .pt 4 0)], [.cells [.leaf, .leaf, .leaf, .leaf], .cells [.leaf, .leaf, .nil], .cells [.leaf, .leaf, .leaf, .leaf], .cells [.leaf, .leaf, .oa .sexp 5], .cells [.leaf, .leaf, .leaf, .leaf], .arr .sexp], [.int .i64, .str, .int .i64, .int .i64, .int .i64, .bool, .str, .str, .int .i64, .int .i64, .int .i64, .bool, .str, .str, .int .i64, .int .i64, .int .i64, .sl .sexp]⟩), (20, ⟨[((2, []), none), ((4, []), none), ((5, []), none), ((8, []), none), ((8, [2]), none)], [(2, .pt 0 0), (4, .pt 1 0), (5, .pt 2 0), (8, .pt 3 0)], [.cells [.leaf, .leaf, .leaf, .leaf], .cells [.leaf, .leaf, .nil], .cells [.leaf, .leaf, .leaf, .leaf], .cells [.leaf, .leaf, .oa .sexp 4], .arr .sexp], [.str, .int .i64, .int .i64, .int .i64, .bool, .str, .str, .int .i64, .int .i64, .int .i64, .bool, .str, .sl .sexp]⟩)]
abbrev S28 : List Sh := [.ag [.leaf, .leaf, .leaf, .leaf], .leaf]
abbrev L28 : List Lf := [.str, .int .i64, .int .i64, .int .i64, .int .i64]
abbrev O28 : List ObSh := []
def rwz28 (Z : prodL L28 → Prop) : Raw := ⟨S28, O28, L28, 0, fun g K X => Z g ∧ readF g K X⟩
def F28_J8 (K : Kn) (s_7 : ByteArray) (t1_7 : Bool) (t2_7 : ByteArray) (t12_7 : ByteArray) (t22_7 : Int) (t3_7 : Int) (t4_7 : Int) (rest1_7 : ByteArray) (rest2_7 : Int) (rest3_7 : Int) (rest4_7 : Int) : Prop :=
  K (.tu [.ag [.bool false, .str s_7, .nil], .ag [.str rest1_7, .int .i64 rest2_7, .int .i64 rest3_7, .int .i64 rest4_7]]) []
def F28_J42 (K : Kn) (r1_41 : ByteArray) (r2_41 : Int) (r3_41 : Int) (r4_41 : Int) (t1_41 : Bool) (t2_41 : ByteArray) (t12_41 : ByteArray) (t22_41 : Int) (t3_41 : Int) (t4_41 : Int) (x1_41 : Bool) (x2_41 : ByteArray) (x_41 : List Sx) : Prop :=
  K (.tu [.ag [.bool x1_41, .str x2_41, .sl false .sexp x_41], .ag [.str r1_41, .int .i64 (IntKind.i64.wrap (r2_41 + 1)), .int .i64 r3_41, .int .i64 r4_41]]) []
def F28_J37 (K : Kn) (W26 : prodL [.int .i64, .str, .int .i64, .int .i64, .int .i64, .bool, .str, .str, .int .i64, .int .i64, .int .i64, .bool, .str, .sl .sexp] → Prop) (depth_36 : Int) (r1_36 : ByteArray) (r2_36 : Int) (r3_36 : Int) (r4_36 : Int) (t1_36 : Bool) (t2_36 : ByteArray) (t12_36 : ByteArray) (t22_36 : Int) (t3_36 : Int) (t4_36 : Int) (x1_36 : Bool) (x2_36 : ByteArray) (rest1_36 : ByteArray) (rest2_36 : Int) (rest3_36 : Int) (rest4_36 : Int) (x_36 : List Sx) : Prop :=
  W26 (depth_36, rest1_36, rest2_36, rest3_36, rest4_36, t1_36, t2_36, t12_36, t22_36, t3_36, t4_36, x1_36, x2_36, x_36, ())
def F28_J38 (K : Kn) (W26 : prodL [.int .i64, .str, .int .i64, .int .i64, .int .i64, .bool, .str, .str, .int .i64, .int .i64, .int .i64, .bool, .str, .sl .sexp] → Prop) (depth_35 : Int) (r1_35 : ByteArray) (r2_35 : Int) (r3_35 : Int) (r4_35 : Int) (t1_35 : Bool) (t2_35 : ByteArray) (t12_35 : ByteArray) (t22_35 : Int) (t3_35 : Int) (t4_35 : Int) (x1_35 : Bool) (x2_35 : ByteArray) (rest1_35 : ByteArray) (rest2_35 : Int) (rest3_35 : Int) (rest4_35 : Int) (x_35 : List Sx) : Prop :=
  bif decide (r2_35 = (r1_35.size : Int)) then (
    F28_J37 K W26 depth_35 r1_35 r2_35 r3_35 r4_35 t1_35 t2_35 t12_35 t22_35 t3_35 t4_35 x1_35 x2_35 rest1_35 rest2_35 rest3_35 11 x_35)
  else (
    F28_J37 K W26 depth_35 r1_35 r2_35 r3_35 r4_35 t1_35 t2_35 t12_35 t22_35 t3_35 t4_35 x1_35 x2_35 rest1_35 rest2_35 rest3_35 rest4_35 x_35)
def F28_J39 (K : Kn) (W26 : prodL [.int .i64, .str, .int .i64, .int .i64, .int .i64, .bool, .str, .str, .int .i64, .int .i64, .int .i64, .bool, .str, .sl .sexp] → Prop) (depth_34 : Int) (r1_34 : ByteArray) (r2_34 : Int) (r3_34 : Int) (r4_34 : Int) (t1_34 : Bool) (t2_34 : ByteArray) (t12_34 : ByteArray) (t22_34 : Int) (t3_34 : Int) (t4_34 : Int) (x1_34 : Bool) (x2_34 : ByteArray) (y1_34 : Bool) (y2_34 : ByteArray) (y3_34 : List Sx) (rest1_34 : ByteArray) (rest2_34 : Int) (rest3_34 : Int) (rest4_34 : Int) (x_34 : List Sx) : Prop :=
  bif decide (rest4_34 = 0) then (
    Room (x_34.length + [(⟨y1_34, y2_34, y3_34⟩ : Sx)].length) 48 (
    F28_J38 K W26 depth_34 r1_34 r2_34 r3_34 r4_34 t1_34 t2_34 t12_34 t22_34 t3_34 t4_34 x1_34 x2_34 rest1_34 rest2_34 rest3_34 rest4_34 (x_34 ++ [(⟨y1_34, y2_34, y3_34⟩ : Sx)])))
  else (
    F28_J38 K W26 depth_34 r1_34 r2_34 r3_34 r4_34 t1_34 t2_34 t12_34 t22_34 t3_34 t4_34 x1_34 x2_34 rest1_34 rest2_34 rest3_34 rest4_34 x_34)
def F28_J40 (K : Kn) (W26 : prodL [.int .i64, .str, .int .i64, .int .i64, .int .i64, .bool, .str, .str, .int .i64, .int .i64, .int .i64, .bool, .str, .sl .sexp] → Prop) (Z : prodL L28 → Prop) (depth_28 : Int) (r1_28 : ByteArray) (r2_28 : Int) (r3_28 : Int) (r4_28 : Int) (t1_28 : Bool) (t2_28 : ByteArray) (t12_28 : ByteArray) (t22_28 : Int) (t3_28 : Int) (t4_28 : Int) (x1_28 : Bool) (x2_28 : ByteArray) (x_28 : List Sx) : Prop :=
  Z (r1_28, r2_28, r3_28, r4_28, IntKind.i64.wrap (depth_28 - 1), ()) ∧
  Res.go (rdS (IntKind.i64.wrap (depth_28 - 1)).toNat (20000 - r3_28).toNat ((bl r1_28).drop r2_28.toNat)) (fun a29 =>
  F28_J39 K W26 depth_28 r1_28 r2_28 r3_28 r4_28 t1_28 t2_28 t12_28 t22_28 t3_28 t4_28 x1_28 x2_28 a29.1.isList a29.1.atom a29.1.list r1_28 ((r1_28.size : Int) - (a29.2.2.length : Int)) (20000 - (a29.2.1 : Int)) 0 x_28) (fun e30 => ∀ (y33 : Sx) (p31 m32 : Int),
  F28_J39 K W26 depth_28 r1_28 r2_28 r3_28 r4_28 t1_28 t2_28 t12_28 t22_28 t3_28 t4_28 x1_28 x2_28 y33.isList y33.atom y33.list r1_28 p31 m32 e30 x_28)
def F28_B26 (K : Kn) (Z : prodL L28 → Prop) (W26 : prodL [.int .i64, .str, .int .i64, .int .i64, .int .i64, .bool, .str, .str, .int .i64, .int .i64, .int .i64, .bool, .str, .sl .sexp] → Prop) (depth_25 : Int) (r1_25 : ByteArray) (r2_25 : Int) (r3_25 : Int) (r4_25 : Int) (t1_25 : Bool) (t2_25 : ByteArray) (t12_25 : ByteArray) (t22_25 : Int) (t3_25 : Int) (t4_25 : Int) (x1_25 : Bool) (x2_25 : ByteArray) (x_25 : List Sx) : Prop :=
  bif decide (r4_25 = 0) then (
    bif decide (r2_25 = (r1_25.size : Int)) then (
      F28_J40 K W26 Z depth_25 r1_25 r2_25 r3_25 r4_25 t1_25 t2_25 t12_25 t22_25 t3_25 t4_25 x1_25 x2_25 x_25)
    else (
      StrAt r1_25 r2_25 fun b27 =>
      bif !decide (b27 = 41) then (
    F28_J40 K W26 Z depth_25 r1_25 r2_25 r3_25 r4_25 t1_25 t2_25 t12_25 t22_25 t3_25 t4_25 x1_25 x2_25 x_25)
  else (
    F28_J42 K r1_25 r2_25 r3_25 r4_25 t1_25 t2_25 t12_25 t22_25 t3_25 t4_25 x1_25 x2_25 x_25)))
  else (
    F28_J42 K r1_25 r2_25 r3_25 r4_25 t1_25 t2_25 t12_25 t22_25 t3_25 t4_25 x1_25 x2_25 x_25)
def F28_L26 (K : Kn) (Z : prodL L28 → Prop) (g : prodL [.int .i64, .str, .int .i64, .int .i64, .int .i64, .bool, .str, .str, .int .i64, .int .i64, .int .i64, .bool, .str, .sl .sexp]) : Prop :=
  LoopW (γ := prodL [.int .i64, .str, .int .i64, .int .i64, .int .i64, .bool, .str, .str, .int .i64, .int .i64, .int .i64, .bool, .str, .sl .sexp]) (fun V y => F28_B26 K Z V y.1 y.2.1 y.2.2.1 y.2.2.2.1 y.2.2.2.2.1 y.2.2.2.2.2.1 y.2.2.2.2.2.2.1 y.2.2.2.2.2.2.2.1 y.2.2.2.2.2.2.2.2.1 y.2.2.2.2.2.2.2.2.2.1 y.2.2.2.2.2.2.2.2.2.2.1 y.2.2.2.2.2.2.2.2.2.2.2.1 y.2.2.2.2.2.2.2.2.2.2.2.2.1 y.2.2.2.2.2.2.2.2.2.2.2.2.2.1) g
def F28_J2 (K : Kn) (Z : prodL L28 → Prop) (depth_1 : Int) (t_1 : Bool) (r1_1 : ByteArray) (r2_1 : Int) (r3_1 : Int) (r4_1 : Int) (t1_1 : Bool) (t2_1 : ByteArray) (t12_1 : ByteArray) (t22_1 : Int) (t3_1 : Int) (t4_1 : Int) : Prop :=
  bif t_1 then (
    K (.tu [.ag [.bool false, .str (⟨#[]⟩ : ByteArray), .nil], .ag [.str r1_1, .int .i64 r2_1, .int .i64 r3_1, .int .i64 12]]) [])
  else (
    StrAt r1_1 r2_1 fun b3 =>
  bif !decide (b3 = 40) then (
    atomPre (r1_1, r2_1, IntKind.i64.wrap (r3_1 - 1), r4_1, ()) ∧
    Res.go (atomR ((bl r1_1).drop r2_1.toNat)) (fun a4 =>
    F28_J8 K (⟨a4.1.toArray⟩ : ByteArray) t1_1 t2_1 t12_1 t22_1 t3_1 t4_1 r1_1 ((r1_1.size : Int) - (a4.2.length : Int)) (IntKind.i64.wrap (r3_1 - 1)) 0) (fun e5 => ∀ p6 : Int,
    F28_J8 K (⟨#[]⟩ : ByteArray) t1_1 t2_1 t12_1 t22_1 t3_1 t4_1 r1_1 p6 (IntKind.i64.wrap (r3_1 - 1)) e5))
  else (
    F28_L26 K Z (depth_1, r1_1, IntKind.i64.wrap (r2_1 + 1), IntKind.i64.wrap (r3_1 - 1), r4_1, t1_1, t2_1, t12_1, t22_1, t3_1, t4_1, true, (⟨#[]⟩ : ByteArray), [], ())))
def F28 (Z : prodL L28 → Prop) (g : prodL L28) (K : Kn) : Prop :=
  bif decide (g.2.1 = (g.1.size : Int)) then (
    K (.tu [.ag [.bool false, .str (⟨#[]⟩ : ByteArray), .nil], .ag [.str g.1, .int .i64 g.2.1, .int .i64 g.2.2.1, .int .i64 11]]) [])
  else (
    bif decide (g.2.2.2.2.1 = 0) then (
    F28_J2 K Z g.2.2.2.2.1 true g.1 g.2.1 g.2.2.1 g.2.2.2.1 false (⟨#[]⟩ : ByteArray) (⟨#[]⟩ : ByteArray) 0 0 0)
  else (
    F28_J2 K Z g.2.2.2.2.1 (decide (g.2.2.1 = 0)) g.1 g.2.1 g.2.2.1 g.2.2.2.1 false (⟨#[]⟩ : ByteArray) (⟨#[]⟩ : ByteArray) 0 0 0))
theorem F28_eq (Z : prodL L28 → Prop) (g : prodL L28) (K X : Kn) : F28 Z g K = dfun D (gamX [(28, rwz28 Z), (44, rw44)] []) (isRaw [(28, rwz28 Z), (44, rw44)]) H28 J28 102 [.cell 4 25, .cell 5 54] (codeOf Tryd.f28) (argsT S28 L28 g) (storeT S28 O28 L28 g) (settle0 K) X 0 := by kernel_rfl
theorem F28_ok (Z : prodL L28 → Prop) (hZ : (rwz28 Z).Ok Tryd.prog 28) (g : prodL L28) (K X : Kn) (h : F28 Z g K) : FCalls Tryd.prog 28 (argsT S28 L28 g) (storeT S28 O28 L28 g) K X 0 :=
  FCalls.settle0 (dfun_sound (Γ := gamX [(28, rwz28 Z), (44, rw44)] []) (mu := isRaw [(28, rwz28 Z), (44, rw44)]) (H := H28) (J := J28) D_ok (gamX_ok (rs := [(28, rwz28 Z), (44, rw44)]) (l := []) (by intro p hp; simp only [List.mem_cons, List.not_mem_nil, or_false] at hp; rcases hp with rfl | rfl <;> first | exact hZ | exact rw44_ok) (fun p hp => by cases hp)) gamX_det rfl Tryd.func28 (c := codeOf Tryd.f28) rfl Tryd.ntmps28 (rs := [.cell 4 25, .cell 5 54]) Tryd.results28 (by unfold enters; rw [Tryd.func28]; kernel_rfl) (Nat.le_of_ble_eq_true (by kernel_rfl)) (X := X) (c0 := 0) (Eq.mp (F28_eq Z g K X) h))
end Go.Proofs.YtpbkhdeehlikfaaDoor
