/- What functions come to: printed by exf.py. -/
import Derived.Test.YtofjpelbjehddaaFX
namespace Go.Proofs.Ytofjpelbjehddaa
set_option linter.unusedVariables false
set_option linter.unusedSimpArgs false
set_option linter.unusedSectionVars false
open Go.RowKit
attribute [local irreducible] dfun dround
/-- quilt/quiltref49.Accept -/
def H25 : List (Nat × Hint) := [(18, ⟨[((2, []), none), ((3, []), none), ((4, []), none), ((6, []), none), ((10, []), none), ((11, []), none)], [(2, .pt 0 0), (3, .pt 1 0), (4, .pt 2 0), (6, .pt 3 0), (9, .leaf), (10, .oa .boo 4), (11, .oa .str 5)], [.cells [.leaf, .leaf, .leaf], .cells [.leaf, .leaf, .leaf], .cells [.leaf, .nil, .nil], .cells [.leaf, .leaf, .leaf], .arr .boo, .arr .str], [.int .i64, .int .i64, .sl .boo, .sl .str, .bool, .int .i64, .str, .int .i64, .bool, .int .i64, .str, .sl .boo, .sl .str]⟩), (22, ⟨[((2, []), none), ((4, []), none), ((6, []), none), ((10, []), none), ((11, []), none)], [(2, .pt 0 0), (4, .pt 1 0), (6, .pt 2 0), (10, .oa .boo 3), (11, .oa .str 4), (12, .leaf)], [.cells [.leaf, .leaf, .leaf], .cells [.leaf, .nil, .nil], .cells [.leaf, .leaf, .leaf], .arr .boo, .arr .str], [.int .i64, .int .i64, .sl .boo, .sl .str, .int .i64, .bool, .int .i64, .str, .sl .boo, .sl .str]⟩)]
def J25 : List (Nat × Hint) := [(7, ⟨[((2, []), none), ((3, []), none), ((4, []), none), ((6, []), none)], [(2, .pt 0 0), (3, .pt 1 0), (4, .pt 2 0), (6, .pt 3 0), (8, .leaf), (26, .leaf)], [.cells [.leaf, .leaf, .leaf], .cells [.leaf, .leaf, .leaf], .cells [.leaf, .nil, .nil], .cells [.leaf, .leaf, .leaf]], [.int .i64, .bool, .int .i64, .sl .boo, .sl .str, .bool, .int .i64, .str, .int .i64, .bool, .int .i64, .str]⟩), (12, ⟨[((2, []), none), ((3, []), none), ((4, []), none), ((6, []), none)], [(2, .pt 0 0), (3, .pt 1 0), (4, .pt 2 0), (6, .pt 3 0), (8, .leaf)], [.cells [.leaf, .leaf, .leaf], .cells [.leaf, .leaf, .leaf], .cells [.leaf, .nil, .nil], .cells [.leaf, .leaf, .leaf]], [.int .i64, .int .i64, .sl .boo, .sl .str, .bool, .int .i64, .str, .int .i64, .bool, .int .i64, .str]⟩), (16, ⟨[((2, []), none), ((3, []), none), ((4, []), none), ((6, []), none)], [(2, .pt 0 0), (3, .pt 1 0), (4, .pt 2 0), (6, .pt 3 0), (9, .leaf), (63, .leaf)], [.cells [.leaf, .leaf, .leaf], .cells [.leaf, .leaf, .leaf], .cells [.leaf, .nil, .nil], .cells [.leaf, .leaf, .leaf]], [.int .i64, .bool, .int .i64, .sl .boo, .sl .str, .bool, .int .i64, .str, .int .i64, .bool, .int .i64, .str]⟩), (24, ⟨[((2, []), none), ((4, []), none), ((6, []), none), ((10, []), none), ((11, []), none)], [(2, .pt 0 0), (4, .pt 1 0), (6, .pt 2 0), (10, .oa .boo 3), (11, .oa .str 4), (12, .leaf)], [.cells [.leaf, .leaf, .leaf], .cells [.leaf, .nil, .nil], .cells [.leaf, .leaf, .leaf], .arr .boo, .arr .str], [.int .i64, .int .i64, .sl .boo, .sl .str, .int .i64, .bool, .int .i64, .str, .sl .boo, .sl .str]⟩)]
abbrev S25 : List Sh := [.ag [.leaf, .leaf, .leaf], .ag [.leaf, .leaf, .leaf]]
abbrev L25 : List Lf := [.int .i64, .sl .boo, .sl .str, .bool, .int .i64, .str]
def F25_J15 (K : Kn) (n_14 : Int) (r1_14 : Int) (r2_14 : List Bool) (r3_14 : List ByteArray) (t1_14 : Int) (t12_14 : Bool) (t2_14 : Int) (t3_14 : ByteArray) (have_14 : List Bool) (data_14 : List ByteArray) : Prop :=
  (0 : Int) ≤ n_14 ∧ n_14 ≤ (have_14.length : Int) ∧ (have_14.length : Int) ≤ (have_14.length : Int) ∧
  (0 : Int) ≤ n_14 ∧ n_14 ≤ (data_14.length : Int) ∧ (data_14.length : Int) ≤ (data_14.length : Int) ∧
  (0 : Int) ≤ 0 ∧ 0 ≤ n_14 ∧ n_14 ≤ (data_14.length : Int) ∧
  K (.tu [.ag [.int .i64 (IntKind.i64.wrap (r1_14 + n_14)), .sl false .boo ((have_14.drop n_14.toNat).take ((have_14.length : Int).toNat - n_14.toNat)), .sl false .str ((data_14.drop n_14.toNat).take ((data_14.length : Int).toNat - n_14.toNat))], .sl false .str ((data_14.drop ((0 : Int).toNat)).take (n_14.toNat - (0 : Int).toNat)), .ag [.bool true, .int .i64 (IntKind.i64.wrap (r1_14 + n_14)), .str (⟨#[]⟩ : ByteArray)], .int .i64 0]) []
def F25_B12 (K : Kn) (W12 : prodL [.int .i64, .int .i64, .sl .boo, .sl .str, .int .i64, .bool, .int .i64, .str, .sl .boo, .sl .str] → Prop) (n_11 : Int) (r1_11 : Int) (r2_11 : List Bool) (r3_11 : List ByteArray) (t1_11 : Int) (t12_11 : Bool) (t2_11 : Int) (t3_11 : ByteArray) (have_11 : List Bool) (data_11 : List ByteArray) : Prop :=
  bif decide (n_11 < (have_11.length : Int)) then (
    0 ≤ n_11 ∧ n_11.toNat < have_11.length ∧
    atI have_11 n_11.toNat fun x13 =>
    bif x13 then (
    W12 (IntKind.i64.wrap (n_11 + 1), r1_11, r2_11, r3_11, t1_11, t12_11, t2_11, t3_11, have_11, data_11, ()))
  else (
    F25_J15 K n_11 r1_11 r2_11 r3_11 t1_11 t12_11 t2_11 t3_11 have_11 data_11))
  else (
    F25_J15 K n_11 r1_11 r2_11 r3_11 t1_11 t12_11 t2_11 t3_11 have_11 data_11)
def F25_L12 (K : Kn) (g : prodL [.int .i64, .int .i64, .sl .boo, .sl .str, .int .i64, .bool, .int .i64, .str, .sl .boo, .sl .str]) : Prop :=
  LoopW (γ := prodL [.int .i64, .int .i64, .sl .boo, .sl .str, .int .i64, .bool, .int .i64, .str, .sl .boo, .sl .str]) (fun V y => F25_B12 K V y.1 y.2.1 y.2.2.1 y.2.2.2.1 y.2.2.2.2.1 y.2.2.2.2.2.1 y.2.2.2.2.2.2.1 y.2.2.2.2.2.2.2.1 y.2.2.2.2.2.2.2.2.1 y.2.2.2.2.2.2.2.2.2.1) g
def F25_B8 (K : Kn) (W8 : prodL [.int .i64, .int .i64, .sl .boo, .sl .str, .bool, .int .i64, .str, .int .i64, .bool, .int .i64, .str, .sl .boo, .sl .str] → Prop) (at_7 : Int) (r1_7 : Int) (r2_7 : List Bool) (r3_7 : List ByteArray) (f1_7 : Bool) (f2_7 : Int) (f3_7 : ByteArray) (t1_7 : Int) (t12_7 : Bool) (t2_7 : Int) (t3_7 : ByteArray) (have_7 : List Bool) (data_7 : List ByteArray) : Prop :=
  bif decide ((have_7.length : Int) ≤ at_7) then (
    Room (have_7.length + [false].length) 1 (
  Room (data_7.length + [(⟨#[]⟩ : ByteArray)].length) 16 (
  W8 (at_7, r1_7, r2_7, r3_7, f1_7, f2_7, f3_7, t1_7, t12_7, t2_7, t3_7, have_7 ++ [false], data_7 ++ [(⟨#[]⟩ : ByteArray)], ()))))
  else (
    0 ≤ at_7 ∧ at_7.toNat < have_7.length ∧
  atI have_7 at_7.toNat fun x9 =>
  0 ≤ at_7 ∧ at_7.toNat < data_7.length ∧
  atI data_7 at_7.toNat fun x10 =>
  F25_L12 K (0, r1_7, r2_7, r3_7, t1_7, t12_7, t2_7, t3_7, have_7.set at_7.toNat true, data_7.set at_7.toNat f3_7, ()))
def F25_L8 (K : Kn) (g : prodL [.int .i64, .int .i64, .sl .boo, .sl .str, .bool, .int .i64, .str, .int .i64, .bool, .int .i64, .str, .sl .boo, .sl .str]) : Prop :=
  LoopW (γ := prodL [.int .i64, .int .i64, .sl .boo, .sl .str, .bool, .int .i64, .str, .int .i64, .bool, .int .i64, .str, .sl .boo, .sl .str]) (fun V y => F25_B8 K V y.1 y.2.1 y.2.2.1 y.2.2.2.1 y.2.2.2.2.1 y.2.2.2.2.2.1 y.2.2.2.2.2.2.1 y.2.2.2.2.2.2.2.1 y.2.2.2.2.2.2.2.2.1 y.2.2.2.2.2.2.2.2.2.1 y.2.2.2.2.2.2.2.2.2.2.1 y.2.2.2.2.2.2.2.2.2.2.2.1 y.2.2.2.2.2.2.2.2.2.2.2.2.1) g
def F25_J6 (K : Kn) (at_5 : Int) (t_5 : Bool) (r1_5 : Int) (r2_5 : List Bool) (r3_5 : List ByteArray) (f1_5 : Bool) (f2_5 : Int) (f3_5 : ByteArray) (t1_5 : Int) (t12_5 : Bool) (t2_5 : Int) (t3_5 : ByteArray) : Prop :=
  bif t_5 then (
    K (.tu [.ag [.int .i64 r1_5, .sl false .boo r2_5, .sl false .str r3_5], .nil, .ag [.bool true, .int .i64 r1_5, .str (⟨#[]⟩ : ByteArray)], .int .i64 0]) [])
  else (
    Room r2_5.length 1 (
  Room r3_5.length 16 (
  F25_L8 K (at_5, r1_5, r2_5, r3_5, f1_5, f2_5, f3_5, t1_5, t12_5, t2_5, t3_5, r2_5, r3_5, ()))))
def F25_J16 (K : Kn) (e_3 : Int) (r1_3 : Int) (r2_3 : List Bool) (r3_3 : List ByteArray) (f1_3 : Bool) (f2_3 : Int) (f3_3 : ByteArray) (t1_3 : Int) (t12_3 : Bool) (t2_3 : Int) (t3_3 : ByteArray) : Prop :=
  bif !decide (e_3 = 0) then (
    K (.tu [.ag [.int .i64 0, .nil, .nil], .nil, .ag [.bool false, .int .i64 0, .str (⟨#[]⟩ : ByteArray)], .int .i64 e_3]) [])
  else (
    bif decide (IntKind.i64.wrap (f2_3 - r1_3) < 0) then (
    F25_J6 K (IntKind.i64.wrap (f2_3 - r1_3)) true r1_3 r2_3 r3_3 f1_3 f2_3 f3_3 t1_3 t12_3 t2_3 t3_3)
  else (
    bif decide (IntKind.i64.wrap (f2_3 - r1_3) < (r2_3.length : Int)) then (
      At r2_3 (IntKind.i64.wrap (f2_3 - r1_3)) fun u4 =>
      F25_J6 K (IntKind.i64.wrap (f2_3 - r1_3)) u4 r1_3 r2_3 r3_3 f1_3 f2_3 f3_3 t1_3 t12_3 t2_3 t3_3)
    else (
      F25_J6 K (IntKind.i64.wrap (f2_3 - r1_3)) false r1_3 r2_3 r3_3 f1_3 f2_3 f3_3 t1_3 t12_3 t2_3 t3_3)))
def F25_J2 (K : Kn) (e_1 : Int) (t_1 : Bool) (r1_1 : Int) (r2_1 : List Bool) (r3_1 : List ByteArray) (f1_1 : Bool) (f2_1 : Int) (f3_1 : ByteArray) (t1_1 : Int) (t12_1 : Bool) (t2_1 : Int) (t3_1 : ByteArray) : Prop :=
  bif t_1 then (
        F25_J16 K 2 r1_1 r2_1 r3_1 f1_1 f2_1 f3_1 t1_1 t12_1 t2_1 t3_1)
      else (
        sp31.pre (f3_1, ()) ∧
        bif !(fitsB f3_1) then (
          F25_J16 K 4 r1_1 r2_1 r3_1 f1_1 f2_1 f3_1 t1_1 t12_1 t2_1 t3_1)
        else (
          bif decide (IntKind.i64.wrap (r1_1 + 64) ≤ f2_1) then (
            F25_J16 K 17 r1_1 r2_1 r3_1 f1_1 f2_1 f3_1 t1_1 t12_1 t2_1 t3_1)
          else (
            F25_J16 K e_1 r1_1 r2_1 r3_1 f1_1 f2_1 f3_1 t1_1 t12_1 t2_1 t3_1)))
def F25 (g : prodL L25) (K : Kn) : Prop :=
  sp43.pre (g.1, g.2.1, g.2.2.1, ()) ∧
  bif !(Rcv.ok ⟨g.1, g.2.1, g.2.2.1⟩) then (
    F25_J16 K 1 g.1 g.2.1 g.2.2.1 g.2.2.2.1 g.2.2.2.2.1 g.2.2.2.2.2.1 0 false 0 (⟨#[]⟩ : ByteArray))
  else (
    bif g.2.2.2.1 then (
      F25_J16 K 8 g.1 g.2.1 g.2.2.1 g.2.2.2.1 g.2.2.2.2.1 g.2.2.2.2.2.1 0 false 0 (⟨#[]⟩ : ByteArray))
    else (
      bif decide (g.2.2.2.2.1 < 0) then (
        F25_J2 K 0 true g.1 g.2.1 g.2.2.1 g.2.2.2.1 g.2.2.2.2.1 g.2.2.2.2.2.1 0 false 0 (⟨#[]⟩ : ByteArray))
      else (
        F25_J2 K 0 (decide (1099511627776 ≤ g.2.2.2.2.1)) g.1 g.2.1 g.2.2.1 g.2.2.2.1 g.2.2.2.2.1 g.2.2.2.2.2.1 0 false 0 (⟨#[]⟩ : ByteArray))))
theorem F25_eq (g : prodL L25) (K X : Kn) : F25 g K = dfun D (gamX [] [(31, true, sp31), (43, true, sp43)]) (isRaw []) H25 J25 124 [.cell 4 41, .tmp 5, .cell 6 43, .tmp 7] (codeOf Try.f25) (argsT S25 L25 g) [] (settle0 K) X := by kernel_rfl
theorem F25_ok (g : prodL L25) (K X : Kn) (h : F25 g K) : FCalls Try.prog 25 (argsT S25 L25 g) [] K X :=
  FCalls.settle0 (dfun_sound (Γ := gamX [] [(31, true, sp31), (43, true, sp43)]) (mu := isRaw []) (H := H25) (J := J25) D_ok (gamX_ok (rs := []) (l := [(31, true, sp31), (43, true, sp43)]) (fun p hp => by cases hp) (by intro p hp; simp only [List.mem_cons, List.not_mem_nil, or_false] at hp; rcases hp with rfl | rfl <;> first | exact sp31_ok | exact sp43_ok)) gamX_det rfl Try.func25 (c := codeOf Try.f25) rfl Try.ntmps25 (rs := [.cell 4 41, .tmp 5, .cell 6 43, .tmp 7]) Try.results25 (by unfold enters; rw [Try.func25]; kernel_rfl) (Nat.le_of_ble_eq_true (by kernel_rfl)) (X := X) (c0 := 0) (Eq.mp (F25_eq g K X) h))
end Go.Proofs.Ytofjpelbjehddaa
