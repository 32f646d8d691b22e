/- What functions come to: printed by exf.py. -/
import Derived.Test.YtofjpelbjehddaaFX
namespace Go.Proofs.Ytofjpelbjehddaa
set_option linter.unusedVariables false
set_option linter.unusedSimpArgs false
set_option linter.unusedSectionVars false
open Go.RowKit
attribute [local irreducible] dfun dround
/-- quilt/arq.Accept -/
def H24 : List (Nat × Hint) := []
def J24 : List (Nat × Hint) := [(7, ⟨[((2, []), none), ((3, []), none), ((4, []), none), ((6, []), none)], [(2, .pt 0 0), (3, .pt 1 0), (4, .pt 2 0), (6, .pt 3 0), (8, .leaf), (19, .leaf)], [.cells [.leaf, .leaf, .leaf], .cells [.leaf, .leaf, .leaf], .cells [.leaf, .nil, .nil], .cells [.leaf, .leaf, .leaf]], [.int .i64, .bool, .int .i64, .sl .boo, .sl .str, .bool, .int .i64, .str, .int .i64, .bool, .int .i64, .str]⟩), (12, ⟨[((2, []), none), ((3, []), none), ((4, []), none), ((6, []), none)], [(2, .pt 0 0), (3, .pt 1 0), (4, .pt 2 0), (6, .pt 3 0), (8, .leaf)], [.cells [.leaf, .leaf, .leaf], .cells [.leaf, .leaf, .leaf], .cells [.leaf, .nil, .nil], .cells [.leaf, .leaf, .leaf]], [.int .i64, .int .i64, .sl .boo, .sl .str, .bool, .int .i64, .str, .int .i64, .bool, .int .i64, .str]⟩), (16, ⟨[((2, []), none), ((3, []), none), ((4, []), none), ((6, []), none)], [(2, .pt 0 0), (3, .pt 1 0), (4, .pt 2 0), (6, .pt 3 0), (9, .leaf), (65, .leaf)], [.cells [.leaf, .leaf, .leaf], .cells [.leaf, .leaf, .leaf], .cells [.leaf, .nil, .nil], .cells [.leaf, .leaf, .leaf]], [.int .i64, .bool, .int .i64, .sl .boo, .sl .str, .bool, .int .i64, .str, .int .i64, .bool, .int .i64, .str]⟩), (21, ⟨[((2, []), none), ((4, []), none), ((6, []), none)], [(2, .pt 0 0), (4, .pt 1 0), (6, .pt 2 0), (10, .leaf)], [.cells [.leaf, .leaf, .leaf], .cells [.leaf, .nil, .nil], .cells [.leaf, .leaf, .leaf]], [.int .i64, .int .i64, .sl .boo, .sl .str, .int .i64, .bool, .int .i64, .str]⟩)]
abbrev S24 : List Sh := [.ag [.leaf, .leaf, .leaf], .ag [.leaf, .leaf, .leaf]]
abbrev L24 : List Lf := [.int .i64, .sl .boo, .sl .str, .bool, .int .i64, .str]
def F24_J8 (K : Kn) (n_7 : Int) (r1_7 : Int) (r2_7 : List Bool) (r3_7 : List ByteArray) (t1_7 : Int) (t12_7 : Bool) (t2_7 : Int) (t3_7 : ByteArray) : Prop :=
  (0 : Int) ≤ 0 ∧ 0 ≤ n_7 ∧ n_7 ≤ (r3_7.length : Int) ∧
  sp29.pre ((r3_7.take n_7.toNat).drop ((0 : Int).toNat), ()) ∧
  (0 : Int) ≤ n_7 ∧ n_7 ≤ (r2_7.length : Int) ∧
  sp42.pre (r2_7.drop n_7.toNat, ()) ∧
  (0 : Int) ≤ n_7 ∧ n_7 ≤ (r3_7.length : Int) ∧
  sp29.pre (r3_7.drop n_7.toNat, ()) ∧
  K (.tu [.ag [.int .i64 (IntKind.i64.wrap (r1_7 + n_7)), .sl false .boo (r2_7.drop n_7.toNat), .sl false .str (r3_7.drop n_7.toNat)], .sl false .str ((r3_7.take n_7.toNat).drop ((0 : Int).toNat)), .ag [.bool true, .int .i64 (IntKind.i64.wrap (r1_7 + n_7)), .str (⟨#[]⟩ : ByteArray)], .int .i64 0]) []
def F24_J6 (K : Kn) (i_5 : Int) (t_5 : Bool) (r1_5 : Int) (r2_5 : List Bool) (r3_5 : List ByteArray) (f1_5 : Bool) (f2_5 : Int) (f3_5 : ByteArray) (t1_5 : Int) (t12_5 : Bool) (t2_5 : Int) (t3_5 : ByteArray) : Prop :=
  bif t_5 then (
    K (.tu [.ag [.int .i64 r1_5, .sl false .boo r2_5, .sl false .str r3_5], .nil, .ag [.bool true, .int .i64 r1_5, .str (⟨#[]⟩ : ByteArray)], .int .i64 0]) [])
  else (
    sp40.pre (r1_5, r2_5, r3_5, i_5, f3_5, ()) ∧
  sp41.pre (putL false r2_5 i_5.toNat true, false, ()) ∧
  bif decide (ixOf (putL false r2_5 i_5.toNat true) false < 0) then (
    F24_J8 K (((putL false r2_5 i_5.toNat true).length : Nat) : Int) r1_5 (putL false r2_5 i_5.toNat true) (putL ⟨#[]⟩ r3_5 i_5.toNat f3_5) t1_5 t12_5 t2_5 t3_5)
  else (
    F24_J8 K (ixOf (putL false r2_5 i_5.toNat true) false) r1_5 (putL false r2_5 i_5.toNat true) (putL ⟨#[]⟩ r3_5 i_5.toNat f3_5) t1_5 t12_5 t2_5 t3_5))
def F24_J9 (K : Kn) (e_3 : Int) (r1_3 : Int) (r2_3 : List Bool) (r3_3 : List ByteArray) (f1_3 : Bool) (f2_3 : Int) (f3_3 : ByteArray) (t1_3 : Int) (t12_3 : Bool) (t2_3 : Int) (t3_3 : ByteArray) : Prop :=
  bif !decide (e_3 = 0) then (
    K (.tu [.ag [.int .i64 0, .nil, .nil], .nil, .ag [.bool false, .int .i64 0, .str (⟨#[]⟩ : ByteArray)], .int .i64 e_3]) [])
  else (
    bif decide (IntKind.i64.wrap (f2_3 - r1_3) < 0) then (
    F24_J6 K (IntKind.i64.wrap (f2_3 - r1_3)) true r1_3 r2_3 r3_3 f1_3 f2_3 f3_3 t1_3 t12_3 t2_3 t3_3)
  else (
    bif decide (IntKind.i64.wrap (f2_3 - r1_3) < (r2_3.length : Int)) then (
      At r2_3 (IntKind.i64.wrap (f2_3 - r1_3)) fun u4 =>
      F24_J6 K (IntKind.i64.wrap (f2_3 - r1_3)) u4 r1_3 r2_3 r3_3 f1_3 f2_3 f3_3 t1_3 t12_3 t2_3 t3_3)
    else (
      F24_J6 K (IntKind.i64.wrap (f2_3 - r1_3)) false r1_3 r2_3 r3_3 f1_3 f2_3 f3_3 t1_3 t12_3 t2_3 t3_3)))
def F24_J2 (K : Kn) (e_1 : Int) (t_1 : Bool) (r1_1 : Int) (r2_1 : List Bool) (r3_1 : List ByteArray) (f1_1 : Bool) (f2_1 : Int) (f3_1 : ByteArray) (t1_1 : Int) (t12_1 : Bool) (t2_1 : Int) (t3_1 : ByteArray) : Prop :=
  bif t_1 then (
        F24_J9 K 2 r1_1 r2_1 r3_1 f1_1 f2_1 f3_1 t1_1 t12_1 t2_1 t3_1)
      else (
        bif decide (65472 < (f3_1.size : Int)) then (
          F24_J9 K 4 r1_1 r2_1 r3_1 f1_1 f2_1 f3_1 t1_1 t12_1 t2_1 t3_1)
        else (
          bif decide (IntKind.i64.wrap (r1_1 + 64) ≤ f2_1) then (
            F24_J9 K 17 r1_1 r2_1 r3_1 f1_1 f2_1 f3_1 t1_1 t12_1 t2_1 t3_1)
          else (
            F24_J9 K e_1 r1_1 r2_1 r3_1 f1_1 f2_1 f3_1 t1_1 t12_1 t2_1 t3_1)))
def F24 (g : prodL L24) (K : Kn) : Prop :=
  sp39.pre (g.1, g.2.1, g.2.2.1, ()) ∧
  bif !(Rcv.ok ⟨g.1, g.2.1, g.2.2.1⟩) then (
    F24_J9 K 1 g.1 g.2.1 g.2.2.1 g.2.2.2.1 g.2.2.2.2.1 g.2.2.2.2.2.1 0 false 0 (⟨#[]⟩ : ByteArray))
  else (
    bif g.2.2.2.1 then (
      F24_J9 K 8 g.1 g.2.1 g.2.2.1 g.2.2.2.1 g.2.2.2.2.1 g.2.2.2.2.2.1 0 false 0 (⟨#[]⟩ : ByteArray))
    else (
      bif decide (g.2.2.2.2.1 < 0) then (
        F24_J2 K 0 true g.1 g.2.1 g.2.2.1 g.2.2.2.1 g.2.2.2.2.1 g.2.2.2.2.2.1 0 false 0 (⟨#[]⟩ : ByteArray))
      else (
        F24_J2 K 0 (decide (1099511627776 ≤ g.2.2.2.2.1)) g.1 g.2.1 g.2.2.1 g.2.2.2.1 g.2.2.2.2.1 g.2.2.2.2.2.1 0 false 0 (⟨#[]⟩ : ByteArray))))
theorem F24_eq (g : prodL L24) (K X : Kn) : F24 g K = dfun D (gamX [] [(29, false, sp29), (39, true, sp39), (40, false, sp40), (41, true, sp41), (42, false, sp42)]) (isRaw []) H24 J24 110 [.cell 4 41, .tmp 5, .cell 6 43, .tmp 7] (codeOf Try.f24) (argsT S24 L24 g) [] (settle0 K) X := by kernel_rfl
theorem F24_ok (g : prodL L24) (K X : Kn) (h : F24 g K) : FCalls Try.prog 24 (argsT S24 L24 g) [] K X :=
  FCalls.settle0 (dfun_sound (Γ := gamX [] [(29, false, sp29), (39, true, sp39), (40, false, sp40), (41, true, sp41), (42, false, sp42)]) (mu := isRaw []) (H := H24) (J := J24) D_ok (gamX_ok (rs := []) (l := [(29, false, sp29), (39, true, sp39), (40, false, sp40), (41, true, sp41), (42, false, sp42)]) (fun p hp => by cases hp) (by intro p hp; simp only [List.mem_cons, List.not_mem_nil, or_false] at hp; rcases hp with rfl | rfl | rfl | rfl | rfl <;> first | exact sp29_ok | exact sp39_ok | exact sp40_ok | exact sp41_ok | exact sp42_ok)) gamX_det rfl Try.func24 (c := codeOf Try.f24) rfl Try.ntmps24 (rs := [.cell 4 41, .tmp 5, .cell 6 43, .tmp 7]) Try.results24 (by unfold enters; rw [Try.func24]; kernel_rfl) (Nat.le_of_ble_eq_true (by kernel_rfl)) (X := X) (c0 := 0) (Eq.mp (F24_eq g K X) h))
end Go.Proofs.Ytofjpelbjehddaa
