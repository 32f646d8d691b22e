/- What functions come to: printed by exf.py. -/
import Derived.Test.YtofjpelbjehddaaFU
namespace Go.Proofs.Ytofjpelbjehddaa
set_option linter.unusedVariables false
set_option linter.unusedSimpArgs false
set_option linter.unusedSectionVars false
open Go.RowKit
attribute [local irreducible] dfun dround
/-- quilt/arq.Offer -/
def H13 : List (Nat × Hint) := []
def J13 : List (Nat × Hint) := []
abbrev S13 : List Sh := [.ag [.leaf, .leaf, .leaf, .leaf], .leaf]
abbrev L13 : List Lf := [.int .i64, .int .i64, .sl .str, .sl .i64, .str]
def F13 (g : prodL L13) (K : Kn) : Prop :=
  sp19.pre (g.1, g.2.1, g.2.2.1, g.2.2.2.1, ()) ∧
  bif !decide (Snd.err ⟨g.1, g.2.1, g.2.2.1, g.2.2.2.1⟩ = 0) then (
    K (.tu [.ag [.int .i64 0, .int .i64 0, .nil, .nil], .int .i64 1]) [])
  else (
    bif decide (65472 < (g.2.2.2.2.1.size : Int)) then (
      K (.tu [.ag [.int .i64 0, .int .i64 0, .nil, .nil], .int .i64 4]) [])
    else (
      bif decide ((g.2.2.1.length : Int) = 1000) then (
        K (.tu [.ag [.int .i64 0, .int .i64 0, .nil, .nil], .int .i64 17]) [])
      else (
        bif decide (IntKind.i64.wrap (g.1 + (g.2.2.1.length : Int)) = 1099511627776) then (
          K (.tu [.ag [.int .i64 0, .int .i64 0, .nil, .nil], .int .i64 4]) [])
        else (
          sp29.pre (g.2.2.1, ()) ∧
  Room (g.2.2.1.length + [g.2.2.2.2.1].length) 16 (
  sp30.pre (g.2.2.2.1, ()) ∧
  Room (g.2.2.2.1.length + [(-1)].length) 8 (
  K (.tu [.ag [.int .i64 g.1, .int .i64 g.2.1, .sl false .str (g.2.2.1 ++ [g.2.2.2.2.1]), .sl false .i64 (g.2.2.2.1 ++ [(-1)])], .int .i64 0]) []))))))
theorem F13_eq (g : prodL L13) (K X : Kn) : F13 g K = dfun D (gamX [] [(19, true, sp19), (29, false, sp29), (30, false, sp30)]) (isRaw []) H13 J13 45 [.cell 4 25, .tmp 5] (codeOf Try.f13) (argsT S13 L13 g) [] (settle0 K) X := by kernel_rfl
theorem F13_ok (g : prodL L13) (K X : Kn) (h : F13 g K) : FCalls Try.prog 13 (argsT S13 L13 g) [] K X :=
  FCalls.settle0 (dfun_sound (Γ := gamX [] [(19, true, sp19), (29, false, sp29), (30, false, sp30)]) (mu := isRaw []) (H := H13) (J := J13) D_ok (gamX_ok (rs := []) (l := [(19, true, sp19), (29, false, sp29), (30, false, sp30)]) (fun p hp => by cases hp) (by intro p hp; simp only [List.mem_cons, List.not_mem_nil, or_false] at hp; rcases hp with rfl | rfl | rfl <;> first | exact sp19_ok | exact sp29_ok | exact sp30_ok)) gamX_det rfl Try.func13 (c := codeOf Try.f13) rfl Try.ntmps13 (rs := [.cell 4 25, .tmp 5]) Try.results13 (by unfold enters; rw [Try.func13]; kernel_rfl) (Nat.le_of_ble_eq_true (by kernel_rfl)) (X := X) (c0 := 0) (Eq.mp (F13_eq g K X) h))
/-- quilt/quiltref49.Offer -/
def H14 : List (Nat × Hint) := []
def J14 : List (Nat × Hint) := []
abbrev S14 : List Sh := [.ag [.leaf, .leaf, .leaf, .leaf], .leaf]
abbrev L14 : List Lf := [.int .i64, .int .i64, .sl .str, .sl .i64, .str]
def F14 (g : prodL L14) (K : Kn) : Prop :=
  sp20.pre (g.1, g.2.1, g.2.2.1, g.2.2.2.1, ()) ∧
  bif !decide (Snd.err ⟨g.1, g.2.1, g.2.2.1, g.2.2.2.1⟩ = 0) then (
    K (.tu [.ag [.int .i64 0, .int .i64 0, .nil, .nil], .int .i64 1]) [])
  else (
    sp31.pre (g.2.2.2.2.1, ()) ∧
  bif !(fitsB g.2.2.2.2.1) then (
    K (.tu [.ag [.int .i64 0, .int .i64 0, .nil, .nil], .int .i64 4]) [])
  else (
    bif decide ((g.2.2.1.length : Int) = 1000) then (
    K (.tu [.ag [.int .i64 0, .int .i64 0, .nil, .nil], .int .i64 17]) [])
  else (
    bif decide (IntKind.i64.wrap (g.1 + (g.2.2.1.length : Int)) = 1099511627776) then (
    K (.tu [.ag [.int .i64 0, .int .i64 0, .nil, .nil], .int .i64 4]) [])
  else (
    Room g.2.2.1.length 16 (
  Room (g.2.2.1.length + [g.2.2.2.2.1].length) 16 (
  Room g.2.2.2.1.length 8 (
  Room (g.2.2.2.1.length + [(-1)].length) 8 (
  K (.tu [.ag [.int .i64 g.1, .int .i64 g.2.1, .sl false .str (g.2.2.1 ++ [g.2.2.2.2.1]), .sl false .i64 (g.2.2.2.1 ++ [(-1)])], .int .i64 0]) []))))))))
theorem F14_eq (g : prodL L14) (K X : Kn) : F14 g K = dfun D (gamX [] [(20, true, sp20), (31, true, sp31)]) (isRaw []) H14 J14 43 [.cell 4 25, .tmp 5] (codeOf Try.f14) (argsT S14 L14 g) [] (settle0 K) X := by kernel_rfl
theorem F14_ok (g : prodL L14) (K X : Kn) (h : F14 g K) : FCalls Try.prog 14 (argsT S14 L14 g) [] K X :=
  FCalls.settle0 (dfun_sound (Γ := gamX [] [(20, true, sp20), (31, true, sp31)]) (mu := isRaw []) (H := H14) (J := J14) D_ok (gamX_ok (rs := []) (l := [(20, true, sp20), (31, true, sp31)]) (fun p hp => by cases hp) (by intro p hp; simp only [List.mem_cons, List.not_mem_nil, or_false] at hp; rcases hp with rfl | rfl <;> first | exact sp20_ok | exact sp31_ok)) gamX_det rfl Try.func14 (c := codeOf Try.f14) rfl Try.ntmps14 (rs := [.cell 4 25, .tmp 5]) Try.results14 (by unfold enters; rw [Try.func14]; kernel_rfl) (Nat.le_of_ble_eq_true (by kernel_rfl)) (X := X) (c0 := 0) (Eq.mp (F14_eq g K X) h))
/-- quilt/quiltref49.Poll -/
def H16 : List (Nat × Hint) := [(6, ⟨[((2, []), none), ((4, []), none), ((6, []), some .frm), ((2, [3]), none)], [(1, .leaf), (2, .pt 0 0), (4, .pt 1 0), (6, .oa .frm 2), (7, .leaf)], [.cells [.leaf, .leaf, .leaf, .oa .i64 3], .cells [.leaf, .leaf, .nil, .nil], .arr .frm, .arr .i64], [.int .i64, .int .i64, .int .i64, .int .i64, .sl .str, .int .i64, .int .i64, .sl .frm, .sl .i64]⟩)]
def J16 : List (Nat × Hint) := [(3, ⟨[((2, []), none), ((4, []), none)], [(1, .leaf), (2, .pt 0 0), (4, .pt 1 0), (6, .nil), (16, .leaf)], [.cells [.leaf, .leaf, .leaf, .leaf], .cells [.leaf, .leaf, .nil, .nil]], [.int .i64, .bool, .int .i64, .int .i64, .sl .str, .sl .i64, .int .i64, .int .i64]⟩), (7, ⟨[((2, []), none), ((4, []), none), ((6, []), none), ((2, [3]), none)], [(1, .leaf), (2, .pt 0 0), (4, .pt 1 0), (6, .oa .frm 2), (7, .leaf)], [.cells [.leaf, .leaf, .leaf, .oa .i64 3], .cells [.leaf, .leaf, .nil, .nil], .arr .frm, .arr .i64], [.int .i64, .int .i64, .int .i64, .int .i64, .sl .str, .int .i64, .int .i64, .sl .frm, .sl .i64]⟩), (9, ⟨[((2, []), none), ((4, []), none), ((6, []), none), ((2, [3]), none)], [(1, .leaf), (2, .pt 0 0), (4, .pt 1 0), (6, .oa .frm 2), (7, .leaf), (52, .leaf)], [.cells [.leaf, .leaf, .leaf, .oa .i64 3], .cells [.leaf, .leaf, .nil, .nil], .arr .frm, .arr .i64], [.int .i64, .int .i64, .bool, .int .i64, .int .i64, .sl .str, .int .i64, .int .i64, .sl .frm, .sl .i64]⟩), (11, ⟨[((2, []), none), ((4, []), none), ((6, []), none), ((2, [3]), none)], [(2, .pt 0 0), (4, .pt 1 0), (6, .oa .frm 2)], [.cells [.leaf, .leaf, .leaf, .oa .i64 3], .cells [.leaf, .leaf, .nil, .nil], .arr .frm, .arr .i64], [.int .i64, .int .i64, .sl .str, .int .i64, .int .i64, .sl .frm, .sl .i64]⟩)]
abbrev S16 : List Sh := [.ag [.leaf, .leaf, .leaf, .leaf], .leaf]
abbrev L16 : List Lf := [.int .i64, .int .i64, .sl .str, .sl .i64, .int .i64]
def F16_J24 (K : Kn) (s1_23 : Int) (s2_23 : Int) (s3_23 : List ByteArray) (t1_23 : Int) (t2_23 : Int) (out_23 : List Frm) (s_23 : List Int) : Prop :=
  K (.tu [.ag [.int .i64 s1_23, .int .i64 s2_23, .sl false .str s3_23, .sl false .i64 s_23], .sl false .frm out_23]) []
def F16_J22 (K : Kn) (W14 : prodL [.int .i64, .int .i64, .int .i64, .int .i64, .sl .str, .int .i64, .int .i64, .sl .frm, .sl .i64] → Prop) (clock_21 : Int) (i_21 : Int) (s1_21 : Int) (s2_21 : Int) (s3_21 : List ByteArray) (t1_21 : Int) (t2_21 : Int) (out_21 : List Frm) (s_21 : List Int) : Prop :=
  W14 (clock_21, IntKind.i64.wrap (i_21 + 1), s1_21, s2_21, s3_21, t1_21, t2_21, out_21, s_21, ())
def F16_J20 (K : Kn) (W14 : prodL [.int .i64, .int .i64, .int .i64, .int .i64, .sl .str, .int .i64, .int .i64, .sl .frm, .sl .i64] → Prop) (clock_17 : Int) (i_17 : Int) (t_17 : Bool) (s1_17 : Int) (s2_17 : Int) (s3_17 : List ByteArray) (t1_17 : Int) (t2_17 : Int) (out_17 : List Frm) (s_17 : List Int) : Prop :=
  bif t_17 then (
    0 ≤ i_17 ∧ i_17.toNat < s_17.length ∧
    atI s_17 i_17.toNat fun x18 =>
    At s3_17 i_17 fun u19 =>
    Room (out_17.length + [(⟨false, (IntKind.i64.wrap (s1_17 + i_17)), u19⟩ : Frm)].length) 32 (
    F16_J22 K W14 clock_17 i_17 s1_17 s2_17 s3_17 t1_17 t2_17 (out_17 ++ [(⟨false, (IntKind.i64.wrap (s1_17 + i_17)), u19⟩ : Frm)]) (s_17.set i_17.toNat clock_17)))
  else (
    F16_J22 K W14 clock_17 i_17 s1_17 s2_17 s3_17 t1_17 t2_17 out_17 s_17)
def F16_B14 (K : Kn) (W14 : prodL [.int .i64, .int .i64, .int .i64, .int .i64, .sl .str, .int .i64, .int .i64, .sl .frm, .sl .i64] → Prop) (clock_13 : Int) (i_13 : Int) (s1_13 : Int) (s2_13 : Int) (s3_13 : List ByteArray) (t1_13 : Int) (t2_13 : Int) (out_13 : List Frm) (s_13 : List Int) : Prop :=
  bif decide (i_13 < (s3_13.length : Int)) then (
    bif decide (i_13 < s2_13) then (
    0 ≤ i_13 ∧ i_13.toNat < s_13.length ∧
  atI s_13 i_13.toNat fun x15 =>
  bif decide (x15 = (-1)) then (
    F16_J20 K W14 clock_13 i_13 true s1_13 s2_13 s3_13 t1_13 t2_13 out_13 s_13)
  else (
    0 ≤ i_13 ∧ i_13.toNat < s_13.length ∧
    atI s_13 i_13.toNat fun x16 =>
    F16_J20 K W14 clock_13 i_13 (decide (4 ≤ IntKind.i64.wrap (clock_13 - x16))) s1_13 s2_13 s3_13 t1_13 t2_13 out_13 s_13))
  else (
    F16_J24 K s1_13 s2_13 s3_13 t1_13 t2_13 out_13 s_13))
  else (
    F16_J24 K s1_13 s2_13 s3_13 t1_13 t2_13 out_13 s_13)
def F16_L14 (K : Kn) (g : prodL [.int .i64, .int .i64, .int .i64, .int .i64, .sl .str, .int .i64, .int .i64, .sl .frm, .sl .i64]) : Prop :=
  LoopW (γ := prodL [.int .i64, .int .i64, .int .i64, .int .i64, .sl .str, .int .i64, .int .i64, .sl .frm, .sl .i64]) (fun V y => F16_B14 K V y.1 y.2.1 y.2.2.1 y.2.2.2.1 y.2.2.2.2.1 y.2.2.2.2.2.1 y.2.2.2.2.2.2.1 y.2.2.2.2.2.2.2.1 y.2.2.2.2.2.2.2.2.1) g
def F16_J2 (K : Kn) (clock_1 : Int) (t_1 : Bool) (s1_1 : Int) (s2_1 : Int) (s3_1 : List ByteArray) (s4_1 : List Int) (t1_1 : Int) (t2_1 : Int) : Prop :=
  bif t_1 then (
    K (.tu [.ag [.int .i64 s1_1, .int .i64 s2_1, .sl false .str s3_1, .sl false .i64 s4_1], .nil]) [])
  else (
    Room s4_1.length 8 (
  F16_L14 K (clock_1, 0, s1_1, s2_1, s3_1, t1_1, t2_1, [], s4_1, ())))
def F16 (g : prodL L16) (K : Kn) : Prop :=
  sp20.pre (g.1, g.2.1, g.2.2.1, g.2.2.2.1, ()) ∧
  bif !decide (Snd.err ⟨g.1, g.2.1, g.2.2.1, g.2.2.2.1⟩ = 0) then (
    F16_J2 K g.2.2.2.2.1 true g.1 g.2.1 g.2.2.1 g.2.2.2.1 0 0)
  else (
    sp34.pre (g.2.2.2.2.1, ()) ∧
    F16_J2 K g.2.2.2.2.1 (!(okN g.2.2.2.2.1)) g.1 g.2.1 g.2.2.1 g.2.2.2.1 0 0)
theorem F16_eq (g : prodL L16) (K X : Kn) : F16 g K = dfun D (gamX [] [(20, true, sp20), (34, true, sp34)]) (isRaw []) H16 J16 73 [.cell 4 25, .tmp 5] (codeOf Try.f16) (argsT S16 L16 g) [] (settle0 K) X := by kernel_rfl
theorem F16_ok (g : prodL L16) (K X : Kn) (h : F16 g K) : FCalls Try.prog 16 (argsT S16 L16 g) [] K X :=
  FCalls.settle0 (dfun_sound (Γ := gamX [] [(20, true, sp20), (34, true, sp34)]) (mu := isRaw []) (H := H16) (J := J16) D_ok (gamX_ok (rs := []) (l := [(20, true, sp20), (34, true, sp34)]) (fun p hp => by cases hp) (by intro p hp; simp only [List.mem_cons, List.not_mem_nil, or_false] at hp; rcases hp with rfl | rfl <;> first | exact sp20_ok | exact sp34_ok)) gamX_det rfl Try.func16 (c := codeOf Try.f16) rfl Try.ntmps16 (rs := [.cell 4 25, .tmp 5]) Try.results16 (by unfold enters; rw [Try.func16]; kernel_rfl) (Nat.le_of_ble_eq_true (by kernel_rfl)) (X := X) (c0 := 0) (Eq.mp (F16_eq g K X) h))
/-- quilt/arq.Acknowledge -/
def H22 : List (Nat × Hint) := []
def J22 : List (Nat × Hint) := [(11, ⟨[((2, []), none), ((3, []), none), ((4, []), none)], [(2, .pt 0 0), (3, .pt 1 0), (4, .pt 2 0), (6, .leaf), (41, .leaf)], [.cells [.leaf, .leaf, .leaf, .leaf], .cells [.leaf, .leaf, .leaf], .cells [.leaf, .leaf, .nil, .nil]], [.int .i64, .bool, .int .i64, .int .i64, .sl .str, .sl .i64, .bool, .int .i64, .str, .int .i64, .int .i64]⟩)]
abbrev S22 : List Sh := [.ag [.leaf, .leaf, .leaf, .leaf], .ag [.leaf, .leaf, .leaf]]
abbrev L22 : List Lf := [.int .i64, .int .i64, .sl .str, .sl .i64, .bool, .int .i64, .str]
def F22_J2 (K : Kn) (n_1 : Int) (t_1 : Bool) (s1_1 : Int) (s2_1 : Int) (s3_1 : List ByteArray) (s4_1 : List Int) (f1_1 : Bool) (f2_1 : Int) (f3_1 : ByteArray) (t1_1 : Int) (t2_1 : Int) : Prop :=
  bif t_1 then (
    K (.tu [.ag [.int .i64 0, .int .i64 0, .nil, .nil], .int .i64 2]) [])
  else (
    (0 : Int) ≤ n_1 ∧ n_1 ≤ (s3_1.length : Int) ∧
  sp29.pre (s3_1.drop n_1.toNat, ()) ∧
  (0 : Int) ≤ n_1 ∧ n_1 ≤ (s4_1.length : Int) ∧
  sp30.pre (s4_1.drop n_1.toNat, ()) ∧
  K (.tu [.ag [.int .i64 f2_1, .int .i64 s2_1, .sl false .str (s3_1.drop n_1.toNat), .sl false .i64 (s4_1.drop n_1.toNat)], .int .i64 0]) [])
def F22 (g : prodL L22) (K : Kn) : Prop :=
  sp19.pre (g.1, g.2.1, g.2.2.1, g.2.2.2.1, ()) ∧
  bif !decide (Snd.err ⟨g.1, g.2.1, g.2.2.1, g.2.2.2.1⟩ = 0) then (
    K (.tu [.ag [.int .i64 0, .int .i64 0, .nil, .nil], .int .i64 1]) [])
  else (
    bif !g.2.2.2.2.1 then (
      K (.tu [.ag [.int .i64 0, .int .i64 0, .nil, .nil], .int .i64 8]) [])
    else (
      sp36.pre (g.2.2.2.2.1, g.2.2.2.2.2.1, g.2.2.2.2.2.2.1, ()) ∧
      bif !decide (frmErr ⟨g.2.2.2.2.1, g.2.2.2.2.2.1, g.2.2.2.2.2.2.1⟩ = 0) then (
        K (.tu [.ag [.int .i64 0, .int .i64 0, .nil, .nil], .int .i64 1]) [])
      else (
        bif decide (IntKind.i64.wrap (g.2.2.2.2.2.1 - g.1) ≤ 0) then (
    K (.tu [.ag [.int .i64 g.1, .int .i64 g.2.1, .sl false .str g.2.2.1, .sl false .i64 g.2.2.2.1], .int .i64 0]) [])
  else (
    bif decide ((g.2.2.1.length : Int) < IntKind.i64.wrap (g.2.2.2.2.2.1 - g.1)) then (
    F22_J2 K (IntKind.i64.wrap (g.2.2.2.2.2.1 - g.1)) true g.1 g.2.1 g.2.2.1 g.2.2.2.1 g.2.2.2.2.1 g.2.2.2.2.2.1 g.2.2.2.2.2.2.1 0 0)
  else (
    (0 : Int) ≤ 0 ∧ 0 ≤ IntKind.i64.wrap (g.2.2.2.2.2.1 - g.1) ∧ IntKind.i64.wrap (g.2.2.2.2.2.1 - g.1) ≤ (g.2.2.2.1.length : Int) ∧
    sp37.pre ((g.2.2.2.1.take ((IntKind.i64.wrap (g.2.2.2.2.2.1 - g.1)).toNat)).drop ((0 : Int).toNat), (-1), ()) ∧
    F22_J2 K (IntKind.i64.wrap (g.2.2.2.2.2.1 - g.1)) (decide ((-1) ∈ ((g.2.2.2.1.take ((IntKind.i64.wrap (g.2.2.2.2.2.1 - g.1)).toNat)).drop ((0 : Int).toNat)))) g.1 g.2.1 g.2.2.1 g.2.2.2.1 g.2.2.2.2.1 g.2.2.2.2.2.1 g.2.2.2.2.2.2.1 0 0)))))
theorem F22_eq (g : prodL L22) (K X : Kn) : F22 g K = dfun D (gamX [] [(19, true, sp19), (29, false, sp29), (30, false, sp30), (36, true, sp36), (37, true, sp37)]) (isRaw []) H22 J22 59 [.cell 4 25, .tmp 5] (codeOf Try.f22) (argsT S22 L22 g) [] (settle0 K) X := by kernel_rfl
theorem F22_ok (g : prodL L22) (K X : Kn) (h : F22 g K) : FCalls Try.prog 22 (argsT S22 L22 g) [] K X :=
  FCalls.settle0 (dfun_sound (Γ := gamX [] [(19, true, sp19), (29, false, sp29), (30, false, sp30), (36, true, sp36), (37, true, sp37)]) (mu := isRaw []) (H := H22) (J := J22) D_ok (gamX_ok (rs := []) (l := [(19, true, sp19), (29, false, sp29), (30, false, sp30), (36, true, sp36), (37, true, sp37)]) (fun p hp => by cases hp) (by intro p hp; simp only [List.mem_cons, List.not_mem_nil, or_false] at hp; rcases hp with rfl | rfl | rfl | rfl | rfl <;> first | exact sp19_ok | exact sp29_ok | exact sp30_ok | exact sp36_ok | exact sp37_ok)) gamX_det rfl Try.func22 (c := codeOf Try.f22) rfl Try.ntmps22 (rs := [.cell 4 25, .tmp 5]) Try.results22 (by unfold enters; rw [Try.func22]; kernel_rfl) (Nat.le_of_ble_eq_true (by kernel_rfl)) (X := X) (c0 := 0) (Eq.mp (F22_eq g K X) h))
/-- quilt/quiltref49.Acknowledge -/
def H23 : List (Nat × Hint) := [(13, ⟨[((2, []), none), ((3, []), none), ((4, []), none)], [(2, .pt 0 0), (3, .pt 1 0), (4, .pt 2 0), (6, .leaf), (7, .leaf)], [.cells [.leaf, .leaf, .leaf, .leaf], .cells [.leaf, .leaf, .leaf], .cells [.leaf, .leaf, .nil, .nil]], [.int .i64, .int .i64, .int .i64, .int .i64, .sl .str, .sl .i64, .bool, .int .i64, .str, .int .i64, .int .i64]⟩)]
def J23 : List (Nat × Hint) := []
abbrev S23 : List Sh := [.ag [.leaf, .leaf, .leaf, .leaf], .ag [.leaf, .leaf, .leaf]]
abbrev L23 : List Lf := [.int .i64, .int .i64, .sl .str, .sl .i64, .bool, .int .i64, .str]
def F23_B2 (K : Kn) (W2 : prodL [.int .i64, .int .i64, .int .i64, .int .i64, .sl .str, .sl .i64, .bool, .int .i64, .str, .int .i64, .int .i64] → Prop) (n_1 : Int) (i_1 : Int) (s1_1 : Int) (s2_1 : Int) (s3_1 : List ByteArray) (s4_1 : List Int) (f1_1 : Bool) (f2_1 : Int) (f3_1 : ByteArray) (t1_1 : Int) (t2_1 : Int) : Prop :=
  bif decide (i_1 < n_1) then (
    At s4_1 i_1 fun u3 =>
  bif decide (u3 = (-1)) then (
    K (.tu [.ag [.int .i64 0, .int .i64 0, .nil, .nil], .int .i64 2]) [])
  else (
    W2 (n_1, IntKind.i64.wrap (i_1 + 1), s1_1, s2_1, s3_1, s4_1, f1_1, f2_1, f3_1, t1_1, t2_1, ())))
  else (
    (0 : Int) ≤ n_1 ∧ n_1 ≤ (s3_1.length : Int) ∧
  Room ((s3_1.drop n_1.toNat).length) 16 (
  (0 : Int) ≤ n_1 ∧ n_1 ≤ (s4_1.length : Int) ∧
  Room ((s4_1.drop n_1.toNat).length) 8 (
  K (.tu [.ag [.int .i64 f2_1, .int .i64 s2_1, .sl false .str (s3_1.drop n_1.toNat), .sl false .i64 (s4_1.drop n_1.toNat)], .int .i64 0]) [])))
def F23_L2 (K : Kn) (g : prodL [.int .i64, .int .i64, .int .i64, .int .i64, .sl .str, .sl .i64, .bool, .int .i64, .str, .int .i64, .int .i64]) : Prop :=
  LoopW (γ := prodL [.int .i64, .int .i64, .int .i64, .int .i64, .sl .str, .sl .i64, .bool, .int .i64, .str, .int .i64, .int .i64]) (fun V y => F23_B2 K V y.1 y.2.1 y.2.2.1 y.2.2.2.1 y.2.2.2.2.1 y.2.2.2.2.2.1 y.2.2.2.2.2.2.1 y.2.2.2.2.2.2.2.1 y.2.2.2.2.2.2.2.2.1 y.2.2.2.2.2.2.2.2.2.1 y.2.2.2.2.2.2.2.2.2.2.1) g
def F23 (g : prodL L23) (K : Kn) : Prop :=
  sp20.pre (g.1, g.2.1, g.2.2.1, g.2.2.2.1, ()) ∧
  bif !decide (Snd.err ⟨g.1, g.2.1, g.2.2.1, g.2.2.2.1⟩ = 0) then (
    K (.tu [.ag [.int .i64 0, .int .i64 0, .nil, .nil], .int .i64 1]) [])
  else (
    bif !g.2.2.2.2.1 then (
    K (.tu [.ag [.int .i64 0, .int .i64 0, .nil, .nil], .int .i64 8]) [])
  else (
    sp38.pre (g.2.2.2.2.1, g.2.2.2.2.2.1, g.2.2.2.2.2.2.1, ()) ∧
  bif !decide (frmErr ⟨g.2.2.2.2.1, g.2.2.2.2.2.1, g.2.2.2.2.2.2.1⟩ = 0) then (
    K (.tu [.ag [.int .i64 0, .int .i64 0, .nil, .nil], .int .i64 1]) [])
  else (
    bif decide (IntKind.i64.wrap (g.2.2.2.2.2.1 - g.1) ≤ 0) then (
    K (.tu [.ag [.int .i64 g.1, .int .i64 g.2.1, .sl false .str g.2.2.1, .sl false .i64 g.2.2.2.1], .int .i64 0]) [])
  else (
    bif decide ((g.2.2.1.length : Int) < IntKind.i64.wrap (g.2.2.2.2.2.1 - g.1)) then (
    K (.tu [.ag [.int .i64 0, .int .i64 0, .nil, .nil], .int .i64 2]) [])
  else (
    F23_L2 K (IntKind.i64.wrap (g.2.2.2.2.2.1 - g.1), 0, g.1, g.2.1, g.2.2.1, g.2.2.2.1, g.2.2.2.2.1, g.2.2.2.2.2.1, g.2.2.2.2.2.2.1, 0, 0, ()))))))
theorem F23_eq (g : prodL L23) (K X : Kn) : F23 g K = dfun D (gamX [] [(20, true, sp20), (38, true, sp38)]) (isRaw []) H23 J23 64 [.cell 4 25, .tmp 5] (codeOf Try.f23) (argsT S23 L23 g) [] (settle0 K) X := by kernel_rfl
theorem F23_ok (g : prodL L23) (K X : Kn) (h : F23 g K) : FCalls Try.prog 23 (argsT S23 L23 g) [] K X :=
  FCalls.settle0 (dfun_sound (Γ := gamX [] [(20, true, sp20), (38, true, sp38)]) (mu := isRaw []) (H := H23) (J := J23) D_ok (gamX_ok (rs := []) (l := [(20, true, sp20), (38, true, sp38)]) (fun p hp => by cases hp) (by intro p hp; simp only [List.mem_cons, List.not_mem_nil, or_false] at hp; rcases hp with rfl | rfl <;> first | exact sp20_ok | exact sp38_ok)) gamX_det rfl Try.func23 (c := codeOf Try.f23) rfl Try.ntmps23 (rs := [.cell 4 25, .tmp 5]) Try.results23 (by unfold enters; rw [Try.func23]; kernel_rfl) (Nat.le_of_ble_eq_true (by kernel_rfl)) (X := X) (c0 := 0) (Eq.mp (F23_eq g K X) h))
end Go.Proofs.Ytofjpelbjehddaa
