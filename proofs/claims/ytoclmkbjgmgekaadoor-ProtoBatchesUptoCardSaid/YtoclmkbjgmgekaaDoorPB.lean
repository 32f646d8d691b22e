/- What functions come to: printed by exf.py. -/
import Derived.Test.YtoclmkbjgmgekaaDoorP1
namespace Go.Proofs.YtoclmkbjgmgekaaDoor
set_option linter.unusedVariables false
set_option linter.unusedSimpArgs false
set_option linter.unusedSectionVars false
open Go.RowKit
attribute [local irreducible] dfun dround
/-- quilt/quiltref50.digest -/
def H86 : List (Nat × Hint) := []
def J86 : List (Nat × Hint) := []
abbrev S86 : List Sh := [.ag [.leaf, .leaf, .leaf, .leaf, .leaf, .leaf, .leaf, .leaf, .leaf, .leaf, .leaf, .leaf, .leaf, .leaf, .leaf, .leaf, .leaf, .leaf, .leaf, .leaf, .leaf, .leaf, .leaf, .leaf, .leaf, .leaf, .leaf, .leaf, .leaf, .leaf, .leaf, .leaf]]
abbrev L86 : List Lf := [.int .u8, .int .u8, .int .u8, .int .u8, .int .u8, .int .u8, .int .u8, .int .u8, .int .u8, .int .u8, .int .u8, .int .u8, .int .u8, .int .u8, .int .u8, .int .u8, .int .u8, .int .u8, .int .u8, .int .u8, .int .u8, .int .u8, .int .u8, .int .u8, .int .u8, .int .u8, .int .u8, .int .u8, .int .u8, .int .u8, .int .u8, .int .u8]
def F86 (g : prodL L86) (K : Kn) : Prop :=
  True ∧
  True ∧
  K (.ag [.bool false, .str (dstr (⟨g.1, g.2.1, g.2.2.1, g.2.2.2.1, g.2.2.2.2.1, g.2.2.2.2.2.1, g.2.2.2.2.2.2.1, g.2.2.2.2.2.2.2.1, g.2.2.2.2.2.2.2.2.1, g.2.2.2.2.2.2.2.2.2.1, g.2.2.2.2.2.2.2.2.2.2.1, g.2.2.2.2.2.2.2.2.2.2.2.1, g.2.2.2.2.2.2.2.2.2.2.2.2.1, g.2.2.2.2.2.2.2.2.2.2.2.2.2.1, g.2.2.2.2.2.2.2.2.2.2.2.2.2.2.1, g.2.2.2.2.2.2.2.2.2.2.2.2.2.2.2.1, g.2.2.2.2.2.2.2.2.2.2.2.2.2.2.2.2.1, g.2.2.2.2.2.2.2.2.2.2.2.2.2.2.2.2.2.1, g.2.2.2.2.2.2.2.2.2.2.2.2.2.2.2.2.2.2.1, g.2.2.2.2.2.2.2.2.2.2.2.2.2.2.2.2.2.2.2.1, g.2.2.2.2.2.2.2.2.2.2.2.2.2.2.2.2.2.2.2.2.1, g.2.2.2.2.2.2.2.2.2.2.2.2.2.2.2.2.2.2.2.2.2.1, g.2.2.2.2.2.2.2.2.2.2.2.2.2.2.2.2.2.2.2.2.2.2.1, g.2.2.2.2.2.2.2.2.2.2.2.2.2.2.2.2.2.2.2.2.2.2.2.1, g.2.2.2.2.2.2.2.2.2.2.2.2.2.2.2.2.2.2.2.2.2.2.2.2.1, g.2.2.2.2.2.2.2.2.2.2.2.2.2.2.2.2.2.2.2.2.2.2.2.2.2.1, g.2.2.2.2.2.2.2.2.2.2.2.2.2.2.2.2.2.2.2.2.2.2.2.2.2.2.1, g.2.2.2.2.2.2.2.2.2.2.2.2.2.2.2.2.2.2.2.2.2.2.2.2.2.2.2.1, g.2.2.2.2.2.2.2.2.2.2.2.2.2.2.2.2.2.2.2.2.2.2.2.2.2.2.2.2.1, g.2.2.2.2.2.2.2.2.2.2.2.2.2.2.2.2.2.2.2.2.2.2.2.2.2.2.2.2.2.1, g.2.2.2.2.2.2.2.2.2.2.2.2.2.2.2.2.2.2.2.2.2.2.2.2.2.2.2.2.2.2.1, g.2.2.2.2.2.2.2.2.2.2.2.2.2.2.2.2.2.2.2.2.2.2.2.2.2.2.2.2.2.2.2.1⟩ : Dig)), .nil]) []
theorem F86_eq (g : prodL L86) (K X : Kn) : F86 g K = dfun D (gamX [] [(46, false, sp46), (98, false, sp98)]) (isRaw []) H86 J86 6 [.cell 2 58] (codeOf Tryd.f86) (argsT S86 L86 g) [] (settle0 K) X := by kernel_rfl
theorem F86_ok (g : prodL L86) (K X : Kn) (h : F86 g K) : FCalls Tryd.prog 86 (argsT S86 L86 g) [] K X :=
  FCalls.settle0 (dfun_sound (Γ := gamX [] [(46, false, sp46), (98, false, sp98)]) (mu := isRaw []) (H := H86) (J := J86) D_ok (gamX_ok (rs := []) (l := [(46, false, sp46), (98, false, sp98)]) (fun p hp => by cases hp) (by intro p hp; simp only [List.mem_cons, List.not_mem_nil, or_false] at hp; rcases hp with rfl | rfl <;> first | exact sp46_ok | exact sp98_ok)) gamX_det rfl Tryd.func86 (c := codeOf Tryd.f86) rfl Tryd.ntmps86 (rs := [.cell 2 58]) Tryd.results86 (by unfold enters; rw [Tryd.func86]; kernel_rfl) (Nat.le_of_ble_eq_true (by kernel_rfl)) (X := X) (c0 := 0) (Eq.mp (F86_eq g K X) h))
/-- quilt/quiltref50.truth -/
def H87 : List (Nat × Hint) := []
def J87 : List (Nat × Hint) := []
abbrev S87 : List Sh := [.leaf]
abbrev L87 : List Lf := [.bool]
def F87 (g : prodL L87) (K : Kn) : Prop :=
  bif g.1 then (
    True ∧
    K (.ag [.bool false, .str (⟨#[49]⟩ : ByteArray), .nil]) [])
  else (
    True ∧
  K (.ag [.bool false, .str (⟨#[48]⟩ : ByteArray), .nil]) [])
theorem F87_eq (g : prodL L87) (K X : Kn) : F87 g K = dfun D (gamX [] [(46, false, sp46)]) (isRaw []) H87 J87 6 [.cell 2 58] (codeOf Tryd.f87) (argsT S87 L87 g) [] (settle0 K) X := by kernel_rfl
theorem F87_ok (g : prodL L87) (K X : Kn) (h : F87 g K) : FCalls Tryd.prog 87 (argsT S87 L87 g) [] K X :=
  FCalls.settle0 (dfun_sound (Γ := gamX [] [(46, false, sp46)]) (mu := isRaw []) (H := H87) (J := J87) D_ok (gamX_ok (rs := []) (l := [(46, false, sp46)]) (fun p hp => by cases hp) (by intro p hp; simp only [List.mem_cons, List.not_mem_nil, or_false] at hp; subst hp; exact sp46_ok)) gamX_det rfl Tryd.func87 (c := codeOf Tryd.f87) rfl Tryd.ntmps87 (rs := [.cell 2 58]) Tryd.results87 (by unfold enters; rw [Tryd.func87]; kernel_rfl) (Nat.le_of_ble_eq_true (by kernel_rfl)) (X := X) (c0 := 0) (Eq.mp (F87_eq g K X) h))
/-- quilt/proto.digests -/
def H78 : List (Nat × Hint) := [(3, ⟨[((3, []), some .sexp)], [(3, .oa .sexp 0), (6, .leaf), (7, .leaf), (8, .leaf)], [.arr .sexp], [.sl .dig, .int .i64, .int .i64, .sl .sexp]⟩)]
def J78 : List (Nat × Hint) := []
abbrev S78 : List Sh := [.leaf]
abbrev L78 : List Lf := [.sl .dig]
def F78_B5 (K : Kn) (W5 : prodL [.sl .dig, .int .i64, .int .i64, .sl .sexp] → Prop) (t_4 : List Dig) (t2_4 : Int) (t3_4 : Int) (out_4 : List Sx) : Prop :=
  bif decide (t3_4 < t2_4) then (
    At t_4 t3_4 fun u6 =>
  True ∧
  Room (out_4.length + [(⟨false, dstr u6, []⟩ : Sx)].length) 48 (
  W5 (t_4, t2_4, IntKind.i64.wrap (t3_4 + 1), out_4 ++ [(⟨false, dstr u6, []⟩ : Sx)], ())))
  else (
    K (.sl false .sexp out_4) [])
def F78_L5 (K : Kn) (g : prodL [.sl .dig, .int .i64, .int .i64, .sl .sexp]) : Prop :=
  LoopW (γ := prodL [.sl .dig, .int .i64, .int .i64, .sl .sexp]) (fun V y => F78_B5 K V y.1 y.2.1 y.2.2.1 y.2.2.2.1) g
def F78 (g : prodL L78) (K : Kn) : Prop :=
  F78_L5 K (g.1, (g.1.length : Int), 0, [], ())
theorem F78_eq (g : prodL L78) (K X : Kn) : F78 g K = dfun D (gamX [] [(76, false, sp76)]) (isRaw []) H78 J78 20 [.tmp 2] (codeOf Tryd.f78) (argsT S78 L78 g) [] (settle0 K) X := by kernel_rfl
theorem F78_ok (g : prodL L78) (K X : Kn) (h : F78 g K) : FCalls Tryd.prog 78 (argsT S78 L78 g) [] K X :=
  FCalls.settle0 (dfun_sound (Γ := gamX [] [(76, false, sp76)]) (mu := isRaw []) (H := H78) (J := J78) D_ok (gamX_ok (rs := []) (l := [(76, false, sp76)]) (fun p hp => by cases hp) (by intro p hp; simp only [List.mem_cons, List.not_mem_nil, or_false] at hp; subst hp; exact sp76_ok)) gamX_det rfl Tryd.func78 (c := codeOf Tryd.f78) rfl Tryd.ntmps78 (rs := [.tmp 2]) Tryd.results78 (by unfold enters; rw [Tryd.func78]; kernel_rfl) (Nat.le_of_ble_eq_true (by kernel_rfl)) (X := X) (c0 := 0) (Eq.mp (F78_eq g K X) h))
/-- quilt/proto.atoms -/
def H79 : List (Nat × Hint) := [(3, ⟨[((3, []), some .sexp)], [(3, .oa .sexp 0), (6, .leaf), (7, .leaf), (8, .leaf)], [.arr .sexp], [.sl .str, .int .i64, .int .i64, .sl .sexp]⟩)]
def J79 : List (Nat × Hint) := []
abbrev S79 : List Sh := [.leaf]
abbrev L79 : List Lf := [.sl .str]
def F79_B5 (K : Kn) (W5 : prodL [.sl .str, .int .i64, .int .i64, .sl .sexp] → Prop) (t_4 : List ByteArray) (t2_4 : Int) (t3_4 : Int) (out_4 : List Sx) : Prop :=
  bif decide (t3_4 < t2_4) then (
    At t_4 t3_4 fun u6 =>
  True ∧
  Room (out_4.length + [(⟨false, u6, []⟩ : Sx)].length) 48 (
  W5 (t_4, t2_4, IntKind.i64.wrap (t3_4 + 1), out_4 ++ [(⟨false, u6, []⟩ : Sx)], ())))
  else (
    K (.sl false .sexp out_4) [])
def F79_L5 (K : Kn) (g : prodL [.sl .str, .int .i64, .int .i64, .sl .sexp]) : Prop :=
  LoopW (γ := prodL [.sl .str, .int .i64, .int .i64, .sl .sexp]) (fun V y => F79_B5 K V y.1 y.2.1 y.2.2.1 y.2.2.2.1) g
def F79 (g : prodL L79) (K : Kn) : Prop :=
  F79_L5 K (g.1, (g.1.length : Int), 0, [], ())
theorem F79_eq (g : prodL L79) (K X : Kn) : F79 g K = dfun D (gamX [] [(76, false, sp76)]) (isRaw []) H79 J79 19 [.tmp 2] (codeOf Tryd.f79) (argsT S79 L79 g) [] (settle0 K) X := by kernel_rfl
theorem F79_ok (g : prodL L79) (K X : Kn) (h : F79 g K) : FCalls Tryd.prog 79 (argsT S79 L79 g) [] K X :=
  FCalls.settle0 (dfun_sound (Γ := gamX [] [(76, false, sp76)]) (mu := isRaw []) (H := H79) (J := J79) D_ok (gamX_ok (rs := []) (l := [(76, false, sp76)]) (fun p hp => by cases hp) (by intro p hp; simp only [List.mem_cons, List.not_mem_nil, or_false] at hp; subst hp; exact sp76_ok)) gamX_det rfl Tryd.func79 (c := codeOf Tryd.f79) rfl Tryd.ntmps79 (rs := [.tmp 2]) Tryd.results79 (by unfold enters; rw [Tryd.func79]; kernel_rfl) (Nat.le_of_ble_eq_true (by kernel_rfl)) (X := X) (c0 := 0) (Eq.mp (F79_eq g K X) h))
/-- quilt/quiltref50.atoms -/
def H50 : List (Nat × Hint) := [(3, ⟨[((3, []), some .sexp)], [(0, .leaf), (3, .oa .sexp 0), (4, .leaf)], [.arr .sexp], [.sl .str, .int .i64, .sl .sexp]⟩)]
def J50 : List (Nat × Hint) := []
abbrev S50 : List Sh := [.leaf]
abbrev L50 : List Lf := [.sl .str]
def F50_B5 (K : Kn) (W5 : prodL [.sl .str, .int .i64, .sl .sexp] → Prop) (l_4 : List ByteArray) (i_4 : Int) (out_4 : List Sx) : Prop :=
  bif decide (i_4 < (l_4.length : Int)) then (
    At l_4 i_4 fun u6 =>
  True ∧
  Room (out_4.length + [(⟨false, u6, []⟩ : Sx)].length) 48 (
  W5 (l_4, IntKind.i64.wrap (i_4 + 1), out_4 ++ [(⟨false, u6, []⟩ : Sx)], ())))
  else (
    K (.sl false .sexp out_4) [])
def F50_L5 (K : Kn) (g : prodL [.sl .str, .int .i64, .sl .sexp]) : Prop :=
  LoopW (γ := prodL [.sl .str, .int .i64, .sl .sexp]) (fun V y => F50_B5 K V y.1 y.2.1 y.2.2.1) g
def F50 (g : prodL L50) (K : Kn) : Prop :=
  F50_L5 K (g.1, 0, [], ())
theorem F50_eq (g : prodL L50) (K X : Kn) : F50 g K = dfun D (gamX [] [(46, false, sp46)]) (isRaw []) H50 J50 21 [.tmp 2] (codeOf Tryd.f50) (argsT S50 L50 g) [] (settle0 K) X := by kernel_rfl
theorem F50_ok (g : prodL L50) (K X : Kn) (h : F50 g K) : FCalls Tryd.prog 50 (argsT S50 L50 g) [] K X :=
  FCalls.settle0 (dfun_sound (Γ := gamX [] [(46, false, sp46)]) (mu := isRaw []) (H := H50) (J := J50) D_ok (gamX_ok (rs := []) (l := [(46, false, sp46)]) (fun p hp => by cases hp) (by intro p hp; simp only [List.mem_cons, List.not_mem_nil, or_false] at hp; subst hp; exact sp46_ok)) gamX_det rfl Tryd.func50 (c := codeOf Tryd.f50) rfl Tryd.ntmps50 (rs := [.tmp 2]) Tryd.results50 (by unfold enters; rw [Tryd.func50]; kernel_rfl) (Nat.le_of_ble_eq_true (by kernel_rfl)) (X := X) (c0 := 0) (Eq.mp (F50_eq g K X) h))
/-- quilt/quiltref02.Same -/
def H25 : List (Nat × Hint) := [(4, ⟨[], [(0, .leaf), (1, .leaf), (5, .leaf)], [], [.sl .dig, .sl .dig, .int .i64]⟩)]
def J25 : List (Nat × Hint) := []
abbrev S25 : List Sh := [.leaf, .leaf]
abbrev L25 : List Lf := [.sl .dig, .sl .dig]
def F25_B2 (K : Kn) (W2 : prodL [.sl .dig, .sl .dig, .int .i64] → Prop) (a_1 : List Dig) (b_1 : List Dig) (i_1 : Int) : Prop :=
  bif decide (i_1 < (a_1.length : Int)) then (
    At a_1 i_1 fun u3 =>
  At b_1 i_1 fun u4 =>
  bif !(digEq u3 u4) then (
    K (.bool false) [])
  else (
    W2 (a_1, b_1, IntKind.i64.wrap (i_1 + 1), ())))
  else (
    K (.bool true) [])
def F25_L2 (K : Kn) (g : prodL [.sl .dig, .sl .dig, .int .i64]) : Prop :=
  LoopW (γ := prodL [.sl .dig, .sl .dig, .int .i64]) (fun V y => F25_B2 K V y.1 y.2.1 y.2.2.1) g
def F25 (g : prodL L25) (K : Kn) : Prop :=
  bif !decide ((g.1.length : Int) = (g.2.1.length : Int)) then (
    K (.bool false) [])
  else (
    F25_L2 K (g.1, g.2.1, 0, ()))
theorem F25_eq (g : prodL L25) (K X : Kn) : F25 g K = dfun D (gamX [] []) (isRaw []) H25 J25 26 [.tmp 4] (codeOf Tryd.f25) (argsT S25 L25 g) [] (settle0 K) X := by kernel_rfl
theorem F25_ok (g : prodL L25) (K X : Kn) (h : F25 g K) : FCalls Tryd.prog 25 (argsT S25 L25 g) [] K X :=
  FCalls.settle0 (dfun_sound (Γ := gamX [] []) (mu := isRaw []) (H := H25) (J := J25) D_ok (gamX_ok (rs := []) (l := []) (fun p hp => by cases hp) (fun p hp => by cases hp)) gamX_det rfl Tryd.func25 (c := codeOf Tryd.f25) rfl Tryd.ntmps25 (rs := [.tmp 4]) Tryd.results25 (by unfold enters; rw [Tryd.func25]; kernel_rfl) (Nat.le_of_ble_eq_true (by kernel_rfl)) (X := X) (c0 := 0) (Eq.mp (F25_eq g K X) h))
/-- quilt/quiltref50.sameStrings -/
def H27 : List (Nat × Hint) := [(4, ⟨[], [(0, .leaf), (1, .leaf), (5, .leaf)], [], [.sl .str, .sl .str, .int .i64]⟩)]
def J27 : List (Nat × Hint) := []
abbrev S27 : List Sh := [.leaf, .leaf]
abbrev L27 : List Lf := [.sl .str, .sl .str]
def F27_B2 (K : Kn) (W2 : prodL [.sl .str, .sl .str, .int .i64] → Prop) (a_1 : List ByteArray) (b_1 : List ByteArray) (i_1 : Int) : Prop :=
  bif decide (i_1 < (a_1.length : Int)) then (
    At a_1 i_1 fun u3 =>
  At b_1 i_1 fun u4 =>
  bif !decide (u3 = u4) then (
    K (.bool false) [])
  else (
    W2 (a_1, b_1, IntKind.i64.wrap (i_1 + 1), ())))
  else (
    K (.bool true) [])
def F27_L2 (K : Kn) (g : prodL [.sl .str, .sl .str, .int .i64]) : Prop :=
  LoopW (γ := prodL [.sl .str, .sl .str, .int .i64]) (fun V y => F27_B2 K V y.1 y.2.1 y.2.2.1) g
def F27 (g : prodL L27) (K : Kn) : Prop :=
  bif !decide ((g.1.length : Int) = (g.2.1.length : Int)) then (
    K (.bool false) [])
  else (
    F27_L2 K (g.1, g.2.1, 0, ()))
theorem F27_eq (g : prodL L27) (K X : Kn) : F27 g K = dfun D (gamX [] []) (isRaw []) H27 J27 26 [.tmp 4] (codeOf Tryd.f27) (argsT S27 L27 g) [] (settle0 K) X := by kernel_rfl
theorem F27_ok (g : prodL L27) (K X : Kn) (h : F27 g K) : FCalls Tryd.prog 27 (argsT S27 L27 g) [] K X :=
  FCalls.settle0 (dfun_sound (Γ := gamX [] []) (mu := isRaw []) (H := H27) (J := J27) D_ok (gamX_ok (rs := []) (l := []) (fun p hp => by cases hp) (fun p hp => by cases hp)) gamX_det rfl Tryd.func27 (c := codeOf Tryd.f27) rfl Tryd.ntmps27 (rs := [.tmp 4]) Tryd.results27 (by unfold enters; rw [Tryd.func27]; kernel_rfl) (Nat.le_of_ble_eq_true (by kernel_rfl)) (X := X) (c0 := 0) (Eq.mp (F27_eq g K X) h))
/-- quilt/proto.numbered -/
def H39 : List (Nat × Hint) := [(2, ⟨[((1, []), none)], [(1, .pt 0 0), (6, .leaf), (7, .leaf), (8, .leaf)], [.cells [.leaf, .leaf, .leaf, .leaf, .leaf, .leaf, .leaf, .leaf, .leaf, .leaf, .leaf, .leaf]], [.sl .rng, .int .i64, .int .i64, .int .i64, .str, .sl .dig, .sl .rng, .sl .str, .sl .str, .int .i64, .str, .int .i64, .sl .dig, .sl .dig, .sl .dig]⟩)]
def J39 : List (Nat × Hint) := []
abbrev S39 : List Sh := [.ag [.leaf, .leaf, .leaf, .leaf, .leaf, .leaf, .leaf, .leaf, .leaf, .leaf, .leaf, .leaf]]
abbrev L39 : List Lf := [.int .i64, .str, .sl .dig, .sl .rng, .sl .str, .sl .str, .int .i64, .str, .int .i64, .sl .dig, .sl .dig, .sl .dig]
def F39_B2 (K : Kn) (W2 : prodL [.sl .rng, .int .i64, .int .i64, .int .i64, .str, .sl .dig, .sl .rng, .sl .str, .sl .str, .int .i64, .str, .int .i64, .sl .dig, .sl .dig, .sl .dig] → Prop) (t_1 : List Rng) (t2_1 : Int) (t3_1 : Int) (m1_1 : Int) (m2_1 : ByteArray) (m3_1 : List Dig) (m4_1 : List Rng) (m5_1 : List ByteArray) (m6_1 : List ByteArray) (m7_1 : Int) (m8_1 : ByteArray) (m9_1 : Int) (m10_1 : List Dig) (m11_1 : List Dig) (m12_1 : List Dig) : Prop :=
  bif decide (t3_1 < t2_1) then (
    At t_1 t3_1 fun u3 =>
  True ∧
  bif !(inB u3.count) then (
    K (.bool false) [])
  else (
    W2 (t_1, t2_1, IntKind.i64.wrap (t3_1 + 1), m1_1, m2_1, m3_1, m4_1, m5_1, m6_1, m7_1, m8_1, m9_1, m10_1, m11_1, m12_1, ())))
  else (
    True ∧
  bif inB m9_1 then (
    bif decide (0 ≤ m7_1) then (
      K (.bool (decide (m7_1 ≤ 27))) [])
    else (
      K (.bool false) []))
  else (
    K (.bool false) []))
def F39_L2 (K : Kn) (g : prodL [.sl .rng, .int .i64, .int .i64, .int .i64, .str, .sl .dig, .sl .rng, .sl .str, .sl .str, .int .i64, .str, .int .i64, .sl .dig, .sl .dig, .sl .dig]) : Prop :=
  LoopW (γ := prodL [.sl .rng, .int .i64, .int .i64, .int .i64, .str, .sl .dig, .sl .rng, .sl .str, .sl .str, .int .i64, .str, .int .i64, .sl .dig, .sl .dig, .sl .dig]) (fun V y => F39_B2 K V y.1 y.2.1 y.2.2.1 y.2.2.2.1 y.2.2.2.2.1 y.2.2.2.2.2.1 y.2.2.2.2.2.2.1 y.2.2.2.2.2.2.2.1 y.2.2.2.2.2.2.2.2.1 y.2.2.2.2.2.2.2.2.2.1 y.2.2.2.2.2.2.2.2.2.2.1 y.2.2.2.2.2.2.2.2.2.2.2.1 y.2.2.2.2.2.2.2.2.2.2.2.2.1 y.2.2.2.2.2.2.2.2.2.2.2.2.2.1 y.2.2.2.2.2.2.2.2.2.2.2.2.2.2.1) g
def F39 (g : prodL L39) (K : Kn) : Prop :=
  F39_L2 K (g.2.2.2.1, (g.2.2.2.1.length : Int), 0, g.1, g.2.1, g.2.2.1, g.2.2.2.1, g.2.2.2.2.1, g.2.2.2.2.2.1, g.2.2.2.2.2.2.1, g.2.2.2.2.2.2.2.1, g.2.2.2.2.2.2.2.2.1, g.2.2.2.2.2.2.2.2.2.1, g.2.2.2.2.2.2.2.2.2.2.1, g.2.2.2.2.2.2.2.2.2.2.2.1, ())
theorem F39_eq (g : prodL L39) (K X : Kn) : F39 g K = dfun D (gamX [] [(72, false, sp72)]) (isRaw []) H39 J39 31 [.tmp 2] (codeOf Tryd.f39) (argsT S39 L39 g) [] (settle0 K) X := by kernel_rfl
theorem F39_ok (g : prodL L39) (K X : Kn) (h : F39 g K) : FCalls Tryd.prog 39 (argsT S39 L39 g) [] K X :=
  FCalls.settle0 (dfun_sound (Γ := gamX [] [(72, false, sp72)]) (mu := isRaw []) (H := H39) (J := J39) D_ok (gamX_ok (rs := []) (l := [(72, false, sp72)]) (fun p hp => by cases hp) (by intro p hp; simp only [List.mem_cons, List.not_mem_nil, or_false] at hp; subst hp; exact sp72_ok)) gamX_det rfl Tryd.func39 (c := codeOf Tryd.f39) rfl Tryd.ntmps39 (rs := [.tmp 2]) Tryd.results39 (by unfold enters; rw [Tryd.func39]; kernel_rfl) (Nat.le_of_ble_eq_true (by kernel_rfl)) (X := X) (c0 := 0) (Eq.mp (F39_eq g K X) h))
/-- quilt/quiltref50.outside -/
def H30 : List (Nat × Hint) := [(2, ⟨[((1, []), none)], [(1, .pt 0 0), (3, .leaf)], [.cells [.leaf, .leaf, .leaf, .leaf, .leaf, .leaf, .leaf, .leaf, .leaf, .leaf, .leaf, .leaf]], [.int .i64, .int .i64, .str, .sl .dig, .sl .rng, .sl .str, .sl .str, .int .i64, .str, .int .i64, .sl .dig, .sl .dig, .sl .dig]⟩)]
def J30 : List (Nat × Hint) := []
abbrev S30 : List Sh := [.ag [.leaf, .leaf, .leaf, .leaf, .leaf, .leaf, .leaf, .leaf, .leaf, .leaf, .leaf, .leaf]]
abbrev L30 : List Lf := [.int .i64, .str, .sl .dig, .sl .rng, .sl .str, .sl .str, .int .i64, .str, .int .i64, .sl .dig, .sl .dig, .sl .dig]
def F30_B2 (K : Kn) (W2 : prodL [.int .i64, .int .i64, .str, .sl .dig, .sl .rng, .sl .str, .sl .str, .int .i64, .str, .int .i64, .sl .dig, .sl .dig, .sl .dig] → Prop) (i_1 : Int) (m1_1 : Int) (m2_1 : ByteArray) (m3_1 : List Dig) (m4_1 : List Rng) (m5_1 : List ByteArray) (m6_1 : List ByteArray) (m7_1 : Int) (m8_1 : ByteArray) (m9_1 : Int) (m10_1 : List Dig) (m11_1 : List Dig) (m12_1 : List Dig) : Prop :=
  bif decide (i_1 < (m4_1.length : Int)) then (
    At m4_1 i_1 fun u3 =>
  True ∧
  bif !(inB u3.count) then (
    K (.bool true) [])
  else (
    W2 (IntKind.i64.wrap (i_1 + 1), m1_1, m2_1, m3_1, m4_1, m5_1, m6_1, m7_1, m8_1, m9_1, m10_1, m11_1, m12_1, ())))
  else (
    True ∧
  bif !(inB m9_1) then (
    K (.bool true) [])
  else (
    bif decide (m7_1 < 0) then (
      K (.bool true) [])
    else (
      K (.bool (decide (27 < m7_1))) [])))
def F30_L2 (K : Kn) (g : prodL [.int .i64, .int .i64, .str, .sl .dig, .sl .rng, .sl .str, .sl .str, .int .i64, .str, .int .i64, .sl .dig, .sl .dig, .sl .dig]) : Prop :=
  LoopW (γ := prodL [.int .i64, .int .i64, .str, .sl .dig, .sl .rng, .sl .str, .sl .str, .int .i64, .str, .int .i64, .sl .dig, .sl .dig, .sl .dig]) (fun V y => F30_B2 K V y.1 y.2.1 y.2.2.1 y.2.2.2.1 y.2.2.2.2.1 y.2.2.2.2.2.1 y.2.2.2.2.2.2.1 y.2.2.2.2.2.2.2.1 y.2.2.2.2.2.2.2.2.1 y.2.2.2.2.2.2.2.2.2.1 y.2.2.2.2.2.2.2.2.2.2.1 y.2.2.2.2.2.2.2.2.2.2.2.1 y.2.2.2.2.2.2.2.2.2.2.2.2.1) g
def F30 (g : prodL L30) (K : Kn) : Prop :=
  F30_L2 K (0, g.1, g.2.1, g.2.2.1, g.2.2.2.1, g.2.2.2.2.1, g.2.2.2.2.2.1, g.2.2.2.2.2.2.1, g.2.2.2.2.2.2.2.1, g.2.2.2.2.2.2.2.2.1, g.2.2.2.2.2.2.2.2.2.1, g.2.2.2.2.2.2.2.2.2.2.1, g.2.2.2.2.2.2.2.2.2.2.2.1, ())
theorem F30_eq (g : prodL L30) (K X : Kn) : F30 g K = dfun D (gamX [] [(43, false, sp43)]) (isRaw []) H30 J30 34 [.tmp 2] (codeOf Tryd.f30) (argsT S30 L30 g) [] (settle0 K) X := by kernel_rfl
theorem F30_ok (g : prodL L30) (K X : Kn) (h : F30 g K) : FCalls Tryd.prog 30 (argsT S30 L30 g) [] K X :=
  FCalls.settle0 (dfun_sound (Γ := gamX [] [(43, false, sp43)]) (mu := isRaw []) (H := H30) (J := J30) D_ok (gamX_ok (rs := []) (l := [(43, false, sp43)]) (fun p hp => by cases hp) (by intro p hp; simp only [List.mem_cons, List.not_mem_nil, or_false] at hp; subst hp; exact sp43_ok)) gamX_det rfl Tryd.func30 (c := codeOf Tryd.f30) rfl Tryd.ntmps30 (rs := [.tmp 2]) Tryd.results30 (by unfold enters; rw [Tryd.func30]; kernel_rfl) (Nat.le_of_ble_eq_true (by kernel_rfl)) (X := X) (c0 := 0) (Eq.mp (F30_eq g K X) h))
/-- quilt/quiltref50.foreign -/
def H29 : List (Nat × Hint) := []
def J29 : List (Nat × Hint) := [(2002000, ⟨[], [], [], []⟩), (2002009, ⟨[((1, []), none)], [(1, .pt 0 0), (3, .leaf), (14, .leaf)], [.cells [.leaf, .leaf, .leaf, .leaf, .leaf, .leaf, .leaf, .leaf, .leaf, .leaf, .leaf, .leaf]], [.int .i64, .bool, .int .i64, .str, .sl .dig, .sl .rng, .sl .str, .sl .str, .int .i64, .str, .int .i64, .sl .dig, .sl .dig, .sl .dig]⟩), (2002023, ⟨[((1, []), none)], [(1, .pt 0 0), (3, .leaf), (28, .leaf)], [.cells [.leaf, .leaf, .leaf, .leaf, .leaf, .leaf, .leaf, .leaf, .leaf, .leaf, .leaf, .leaf]], [.int .i64, .bool, .int .i64, .str, .sl .dig, .sl .rng, .sl .str, .sl .str, .int .i64, .str, .int .i64, .sl .dig, .sl .dig, .sl .dig]⟩), (2002033, ⟨[((1, []), none)], [(1, .pt 0 0), (3, .leaf), (38, .leaf)], [.cells [.leaf, .leaf, .leaf, .leaf, .leaf, .leaf, .leaf, .leaf, .leaf, .leaf, .leaf, .leaf]], [.int .i64, .bool, .int .i64, .str, .sl .dig, .sl .rng, .sl .str, .sl .str, .int .i64, .str, .int .i64, .sl .dig, .sl .dig, .sl .dig]⟩), (2002048, ⟨[((1, []), none)], [(1, .pt 0 0), (3, .leaf), (53, .leaf)], [.cells [.leaf, .leaf, .leaf, .leaf, .leaf, .leaf, .leaf, .leaf, .leaf, .leaf, .leaf, .leaf]], [.int .i64, .bool, .int .i64, .str, .sl .dig, .sl .rng, .sl .str, .sl .str, .int .i64, .str, .int .i64, .sl .dig, .sl .dig, .sl .dig]⟩), (2002062, ⟨[((1, []), none)], [(1, .pt 0 0), (3, .leaf), (67, .leaf)], [.cells [.leaf, .leaf, .leaf, .leaf, .leaf, .leaf, .leaf, .leaf, .leaf, .leaf, .leaf, .leaf]], [.int .i64, .bool, .int .i64, .str, .sl .dig, .sl .rng, .sl .str, .sl .str, .int .i64, .str, .int .i64, .sl .dig, .sl .dig, .sl .dig]⟩)]
abbrev S29 : List Sh := [.ag [.leaf, .leaf, .leaf, .leaf, .leaf, .leaf, .leaf, .leaf, .leaf, .leaf, .leaf, .leaf]]
abbrev L29 : List Lf := [.int .i64, .str, .sl .dig, .sl .rng, .sl .str, .sl .str, .int .i64, .str, .int .i64, .sl .dig, .sl .dig, .sl .dig]
def F29_J6 (K : Kn) (k_5 : Int) (t_5 : Bool) (m1_5 : Int) (m2_5 : ByteArray) (m3_5 : List Dig) (m4_5 : List Rng) (m5_5 : List ByteArray) (m6_5 : List ByteArray) (m7_5 : Int) (m8_5 : ByteArray) (m9_5 : Int) (m10_5 : List Dig) (m11_5 : List Dig) (m12_5 : List Dig) : Prop :=
  bif t_5 then (
    K (.bool true) [])
  else (
    bif !decide (k_5 = 7) then (
      K (.bool (decide (0 < (m6_5.length : Int)))) [])
    else (
      K (.bool false) []))
def F29_J7 (K : Kn) (k_4 : Int) (t_4 : Bool) (m1_4 : Int) (m2_4 : ByteArray) (m3_4 : List Dig) (m4_4 : List Rng) (m5_4 : List ByteArray) (m6_4 : List ByteArray) (m7_4 : Int) (m8_4 : ByteArray) (m9_4 : Int) (m10_4 : List Dig) (m11_4 : List Dig) (m12_4 : List Dig) : Prop :=
  bif t_4 then (
    F29_J6 K k_4 true m1_4 m2_4 m3_4 m4_4 m5_4 m6_4 m7_4 m8_4 m9_4 m10_4 m11_4 m12_4)
  else (
    bif !decide (k_4 = 6) then (
      bif !decide (m7_4 = 0) then (
        F29_J6 K k_4 true m1_4 m2_4 m3_4 m4_4 m5_4 m6_4 m7_4 m8_4 m9_4 m10_4 m11_4 m12_4)
      else (
        F29_J6 K k_4 (!decide (m8_4 = (⟨#[]⟩ : ByteArray))) m1_4 m2_4 m3_4 m4_4 m5_4 m6_4 m7_4 m8_4 m9_4 m10_4 m11_4 m12_4))
    else (
      F29_J6 K k_4 false m1_4 m2_4 m3_4 m4_4 m5_4 m6_4 m7_4 m8_4 m9_4 m10_4 m11_4 m12_4))
def F29_J8 (K : Kn) (k_3 : Int) (t_3 : Bool) (m1_3 : Int) (m2_3 : ByteArray) (m3_3 : List Dig) (m4_3 : List Rng) (m5_3 : List ByteArray) (m6_3 : List ByteArray) (m7_3 : Int) (m8_3 : ByteArray) (m9_3 : Int) (m10_3 : List Dig) (m11_3 : List Dig) (m12_3 : List Dig) : Prop :=
  bif t_3 then (
    F29_J7 K k_3 true m1_3 m2_3 m3_3 m4_3 m5_3 m6_3 m7_3 m8_3 m9_3 m10_3 m11_3 m12_3)
  else (
    bif !decide (k_3 = 5) then (
      bif !decide (m2_3 = (⟨#[]⟩ : ByteArray)) then (
        F29_J7 K k_3 true m1_3 m2_3 m3_3 m4_3 m5_3 m6_3 m7_3 m8_3 m9_3 m10_3 m11_3 m12_3)
      else (
        True ∧
        F29_J7 K k_3 (!(unsigned (⟨m9_3, m10_3, m11_3, m12_3⟩ : Sgn))) m1_3 m2_3 m3_3 m4_3 m5_3 m6_3 m7_3 m8_3 m9_3 m10_3 m11_3 m12_3))
    else (
      F29_J7 K k_3 false m1_3 m2_3 m3_3 m4_3 m5_3 m6_3 m7_3 m8_3 m9_3 m10_3 m11_3 m12_3))
def F29_J9 (K : Kn) (k_2 : Int) (t_2 : Bool) (m1_2 : Int) (m2_2 : ByteArray) (m3_2 : List Dig) (m4_2 : List Rng) (m5_2 : List ByteArray) (m6_2 : List ByteArray) (m7_2 : Int) (m8_2 : ByteArray) (m9_2 : Int) (m10_2 : List Dig) (m11_2 : List Dig) (m12_2 : List Dig) : Prop :=
  bif t_2 then (
    F29_J8 K k_2 true m1_2 m2_2 m3_2 m4_2 m5_2 m6_2 m7_2 m8_2 m9_2 m10_2 m11_2 m12_2)
  else (
    bif !decide (k_2 = 3) then (
      F29_J8 K k_2 (decide (0 < (m5_2.length : Int))) m1_2 m2_2 m3_2 m4_2 m5_2 m6_2 m7_2 m8_2 m9_2 m10_2 m11_2 m12_2)
    else (
      F29_J8 K k_2 false m1_2 m2_2 m3_2 m4_2 m5_2 m6_2 m7_2 m8_2 m9_2 m10_2 m11_2 m12_2))
def F29_J10 (K : Kn) (k_1 : Int) (t_1 : Bool) (m1_1 : Int) (m2_1 : ByteArray) (m3_1 : List Dig) (m4_1 : List Rng) (m5_1 : List ByteArray) (m6_1 : List ByteArray) (m7_1 : Int) (m8_1 : ByteArray) (m9_1 : Int) (m10_1 : List Dig) (m11_1 : List Dig) (m12_1 : List Dig) : Prop :=
  bif t_1 then (
    F29_J9 K k_1 true m1_1 m2_1 m3_1 m4_1 m5_1 m6_1 m7_1 m8_1 m9_1 m10_1 m11_1 m12_1)
  else (
    bif !decide (k_1 = 2) then (
      bif !decide (k_1 = 5) then (
        F29_J9 K k_1 (decide (0 < (m3_1.length : Int))) m1_1 m2_1 m3_1 m4_1 m5_1 m6_1 m7_1 m8_1 m9_1 m10_1 m11_1 m12_1)
      else (
        F29_J9 K k_1 false m1_1 m2_1 m3_1 m4_1 m5_1 m6_1 m7_1 m8_1 m9_1 m10_1 m11_1 m12_1))
    else (
      F29_J9 K k_1 false m1_1 m2_1 m3_1 m4_1 m5_1 m6_1 m7_1 m8_1 m9_1 m10_1 m11_1 m12_1))
def F29 (g : prodL L29) (K : Kn) : Prop :=
  bif !decide (g.1 = 1) then (
    F29_J10 K g.1 (decide (0 < (g.2.2.2.1.length : Int))) g.1 g.2.1 g.2.2.1 g.2.2.2.1 g.2.2.2.2.1 g.2.2.2.2.2.1 g.2.2.2.2.2.2.1 g.2.2.2.2.2.2.2.1 g.2.2.2.2.2.2.2.2.1 g.2.2.2.2.2.2.2.2.2.1 g.2.2.2.2.2.2.2.2.2.2.1 g.2.2.2.2.2.2.2.2.2.2.2.1)
  else (
    F29_J10 K g.1 false g.1 g.2.1 g.2.2.1 g.2.2.2.1 g.2.2.2.2.1 g.2.2.2.2.2.1 g.2.2.2.2.2.2.1 g.2.2.2.2.2.2.2.1 g.2.2.2.2.2.2.2.2.1 g.2.2.2.2.2.2.2.2.2.1 g.2.2.2.2.2.2.2.2.2.2.1 g.2.2.2.2.2.2.2.2.2.2.2.1)
theorem F29_eq (g : prodL L29) (K X : Kn) : F29 g K = dfun D (gamX [] [(42, true, sp42)]) (isRaw []) H29 J29 77 [.tmp 2] (codeOf Tryd.f29) (argsT S29 L29 g) [] (settle0 K) X := by kernel_rfl
theorem F29_ok (g : prodL L29) (K X : Kn) (h : F29 g K) : FCalls Tryd.prog 29 (argsT S29 L29 g) [] K X :=
  FCalls.settle0 (dfun_sound (Γ := gamX [] [(42, true, sp42)]) (mu := isRaw []) (H := H29) (J := J29) D_ok (gamX_ok (rs := []) (l := [(42, true, sp42)]) (fun p hp => by cases hp) (by intro p hp; simp only [List.mem_cons, List.not_mem_nil, or_false] at hp; subst hp; exact sp42_ok)) gamX_det rfl Tryd.func29 (c := codeOf Tryd.f29) rfl Tryd.ntmps29 (rs := [.tmp 2]) Tryd.results29 (by unfold enters; rw [Tryd.func29]; kernel_rfl) (Nat.le_of_ble_eq_true (by kernel_rfl)) (X := X) (c0 := 0) (Eq.mp (F29_eq g K X) h))
/-- quilt/proto.empty -/
def H37 : List (Nat × Hint) := []
def J37 : List (Nat × Hint) := []
abbrev S37 : List Sh := [.ag [.leaf, .leaf, .leaf, .leaf, .leaf, .leaf, .leaf, .leaf, .leaf, .leaf, .leaf, .leaf]]
abbrev L37 : List Lf := [.int .i64, .str, .sl .dig, .sl .rng, .sl .str, .sl .str, .int .i64, .str, .int .i64, .sl .dig, .sl .dig, .sl .dig]
def F37 (g : prodL L37) (K : Kn) : Prop :=
  bif decide (g.2.1 = (⟨#[]⟩ : ByteArray)) then (
    bif decide (g.2.2.2.2.2.2.2.1 = (⟨#[]⟩ : ByteArray)) then (
      bif decide (g.2.2.2.2.2.2.1 = 0) then (
        bif decide (IntKind.i64.wrap ((IntKind.i64.wrap ((IntKind.i64.wrap ((g.2.2.1.length : Int) + (g.2.2.2.1.length : Int))) + (g.2.2.2.2.1.length : Int))) + (g.2.2.2.2.2.1.length : Int)) = 0) then (
          bif decide (g.2.2.2.2.2.2.2.2.1 = 0) then (
            K (.bool (decide (IntKind.i64.wrap ((IntKind.i64.wrap ((g.2.2.2.2.2.2.2.2.2.1.length : Int) + (g.2.2.2.2.2.2.2.2.2.2.1.length : Int))) + (g.2.2.2.2.2.2.2.2.2.2.2.1.length : Int)) = 0))) [])
          else (
            K (.bool false) []))
        else (
          K (.bool false) []))
      else (
        K (.bool false) []))
    else (
      K (.bool false) []))
  else (
    K (.bool false) [])
theorem F37_eq (g : prodL L37) (K X : Kn) : F37 g K = dfun D (gamX [] []) (isRaw []) H37 J37 56 [.tmp 2] (codeOf Tryd.f37) (argsT S37 L37 g) [] (settle0 K) X := by kernel_rfl
theorem F37_ok (g : prodL L37) (K X : Kn) (h : F37 g K) : FCalls Tryd.prog 37 (argsT S37 L37 g) [] K X :=
  FCalls.settle0 (dfun_sound (Γ := gamX [] []) (mu := isRaw []) (H := H37) (J := J37) D_ok (gamX_ok (rs := []) (l := []) (fun p hp => by cases hp) (fun p hp => by cases hp)) gamX_det rfl Tryd.func37 (c := codeOf Tryd.f37) rfl Tryd.ntmps37 (rs := [.tmp 2]) Tryd.results37 (by unfold enters; rw [Tryd.func37]; kernel_rfl) (Nat.le_of_ble_eq_true (by kernel_rfl)) (X := X) (c0 := 0) (Eq.mp (F37_eq g K X) h))
/-- quilt/proto.foreign -/
def H38 : List (Nat × Hint) := []
def J38 : List (Nat × Hint) := [(14, ⟨[((1, []), none), ((2, []), none)], [(1, .pt 0 0), (2, .pt 1 0)], [.cells [.leaf, .leaf, .leaf, .leaf, .leaf, .leaf, .leaf, .leaf, .leaf, .leaf, .leaf, .leaf], .cells [.leaf, .leaf, .nil, .nil, .nil, .nil, .leaf, .leaf, .leaf, .nil, .nil, .nil]], [.int .i64, .str, .sl .dig, .sl .rng, .sl .str, .sl .str, .int .i64, .str, .int .i64, .sl .dig, .sl .dig, .sl .dig, .int .i64, .str, .int .i64, .str, .int .i64]⟩)]
abbrev S38 : List Sh := [.ag [.leaf, .leaf, .leaf, .leaf, .leaf, .leaf, .leaf, .leaf, .leaf, .leaf, .leaf, .leaf]]
abbrev L38 : List Lf := [.int .i64, .str, .sl .dig, .sl .rng, .sl .str, .sl .str, .int .i64, .str, .int .i64, .sl .dig, .sl .dig, .sl .dig]
def F38_J2 (K : Kn) (m1_1 : Int) (m2_1 : ByteArray) (m3_1 : List Dig) (m4_1 : List Rng) (m5_1 : List ByteArray) (m6_1 : List ByteArray) (m7_1 : Int) (m8_1 : ByteArray) (m9_1 : Int) (m10_1 : List Dig) (m11_1 : List Dig) (m12_1 : List Dig) (t1_1 : Int) (t2_1 : ByteArray) (t7_1 : Int) (t8_1 : ByteArray) (t9_1 : Int) : Prop :=
  K (.ag [.int .i64 0, .str m2_1, .sl false .dig m3_1, .sl false .rng m4_1, .sl false .str m5_1, .sl false .str m6_1, .int .i64 m7_1, .str m8_1, .int .i64 m9_1, .sl false .dig m10_1, .sl false .dig m11_1, .sl false .dig m12_1]) []
def F38 (g : prodL L38) (K : Kn) : Prop :=
  bif decide (g.1 = 1) then (
    F38_J2 K g.1 g.2.1 g.2.2.1 [] g.2.2.2.2.1 g.2.2.2.2.2.1 g.2.2.2.2.2.2.1 g.2.2.2.2.2.2.2.1 g.2.2.2.2.2.2.2.2.1 g.2.2.2.2.2.2.2.2.2.1 g.2.2.2.2.2.2.2.2.2.2.1 g.2.2.2.2.2.2.2.2.2.2.2.1 0 (⟨#[]⟩ : ByteArray) 0 (⟨#[]⟩ : ByteArray) 0)
  else (
    bif decide (g.1 = 2) then (
      F38_J2 K g.1 g.2.1 [] g.2.2.2.1 g.2.2.2.2.1 g.2.2.2.2.2.1 g.2.2.2.2.2.2.1 g.2.2.2.2.2.2.2.1 g.2.2.2.2.2.2.2.2.1 g.2.2.2.2.2.2.2.2.2.1 g.2.2.2.2.2.2.2.2.2.2.1 g.2.2.2.2.2.2.2.2.2.2.2.1 0 (⟨#[]⟩ : ByteArray) 0 (⟨#[]⟩ : ByteArray) 0)
    else (
      bif decide (g.1 = 3) then (
        F38_J2 K g.1 g.2.1 g.2.2.1 g.2.2.2.1 [] g.2.2.2.2.2.1 g.2.2.2.2.2.2.1 g.2.2.2.2.2.2.2.1 g.2.2.2.2.2.2.2.2.1 g.2.2.2.2.2.2.2.2.2.1 g.2.2.2.2.2.2.2.2.2.2.1 g.2.2.2.2.2.2.2.2.2.2.2.1 0 (⟨#[]⟩ : ByteArray) 0 (⟨#[]⟩ : ByteArray) 0)
      else (
        bif decide (g.1 = 5) then (
          F38_J2 K g.1 (⟨#[]⟩ : ByteArray) [] g.2.2.2.1 g.2.2.2.2.1 g.2.2.2.2.2.1 g.2.2.2.2.2.2.1 g.2.2.2.2.2.2.2.1 0 [] [] [] 0 (⟨#[]⟩ : ByteArray) 0 (⟨#[]⟩ : ByteArray) 0)
        else (
          bif decide (g.1 = 6) then (
            F38_J2 K g.1 g.2.1 g.2.2.1 g.2.2.2.1 g.2.2.2.2.1 g.2.2.2.2.2.1 0 (⟨#[]⟩ : ByteArray) g.2.2.2.2.2.2.2.2.1 g.2.2.2.2.2.2.2.2.2.1 g.2.2.2.2.2.2.2.2.2.2.1 g.2.2.2.2.2.2.2.2.2.2.2.1 0 (⟨#[]⟩ : ByteArray) 0 (⟨#[]⟩ : ByteArray) 0)
          else (
            bif decide (g.1 = 7) then (
              F38_J2 K g.1 g.2.1 g.2.2.1 g.2.2.2.1 g.2.2.2.2.1 [] g.2.2.2.2.2.2.1 g.2.2.2.2.2.2.2.1 g.2.2.2.2.2.2.2.2.1 g.2.2.2.2.2.2.2.2.2.1 g.2.2.2.2.2.2.2.2.2.2.1 g.2.2.2.2.2.2.2.2.2.2.2.1 0 (⟨#[]⟩ : ByteArray) 0 (⟨#[]⟩ : ByteArray) 0)
            else (
              F38_J2 K g.1 g.2.1 g.2.2.1 g.2.2.2.1 g.2.2.2.2.1 g.2.2.2.2.2.1 g.2.2.2.2.2.2.1 g.2.2.2.2.2.2.2.1 g.2.2.2.2.2.2.2.2.1 g.2.2.2.2.2.2.2.2.2.1 g.2.2.2.2.2.2.2.2.2.2.1 g.2.2.2.2.2.2.2.2.2.2.2.1 0 (⟨#[]⟩ : ByteArray) 0 (⟨#[]⟩ : ByteArray) 0))))))
theorem F38_eq (g : prodL L38) (K X : Kn) : F38 g K = dfun D (gamX [] []) (isRaw []) H38 J38 29 [.cell 2 36] (codeOf Tryd.f38) (argsT S38 L38 g) [] (settle0 K) X := by kernel_rfl
theorem F38_ok (g : prodL L38) (K X : Kn) (h : F38 g K) : FCalls Tryd.prog 38 (argsT S38 L38 g) [] K X :=
  FCalls.settle0 (dfun_sound (Γ := gamX [] []) (mu := isRaw []) (H := H38) (J := J38) D_ok (gamX_ok (rs := []) (l := []) (fun p hp => by cases hp) (fun p hp => by cases hp)) gamX_det rfl Tryd.func38 (c := codeOf Tryd.f38) rfl Tryd.ntmps38 (rs := [.cell 2 36]) Tryd.results38 (by unfold enters; rw [Tryd.func38]; kernel_rfl) (Nat.le_of_ble_eq_true (by kernel_rfl)) (X := X) (c0 := 0) (Eq.mp (F38_eq g K X) h))
/-- quilt/quiltref50.GreatStrings -/
def H10 : List (Nat × Hint) := [(3, ⟨[], [(0, .leaf), (3, .leaf), (4, .leaf)], [], [.sl .str, .int .i64, .int .i64]⟩)]
def J10 : List (Nat × Hint) := []
abbrev S10 : List Sh := [.leaf]
abbrev L10 : List Lf := [.sl .str]
def F10_B2 (K : Kn) (W2 : prodL [.sl .str, .int .i64, .int .i64] → Prop) (l_1 : List ByteArray) (n_1 : Int) (i_1 : Int) : Prop :=
  bif decide (i_1 < (l_1.length : Int)) then (
    At l_1 i_1 fun u3 =>
  W2 (l_1, IntKind.i64.wrap (n_1 + (u3.size : Int)), IntKind.i64.wrap (i_1 + 1), ()))
  else (
    bif decide (20 < (l_1.length : Int)) then (
    K (.bool true) [])
  else (
    K (.bool (decide (2000 < n_1))) []))
def F10_L2 (K : Kn) (g : prodL [.sl .str, .int .i64, .int .i64]) : Prop :=
  LoopW (γ := prodL [.sl .str, .int .i64, .int .i64]) (fun V y => F10_B2 K V y.1 y.2.1 y.2.2.1) g
def F10 (g : prodL L10) (K : Kn) : Prop :=
  F10_L2 K (g.1, 0, 0, ())
theorem F10_eq (g : prodL L10) (K X : Kn) : F10 g K = dfun D (gamX [] []) (isRaw []) H10 J10 25 [.tmp 2] (codeOf Tryd.f10) (argsT S10 L10 g) [] (settle0 K) X := by kernel_rfl
theorem F10_ok (g : prodL L10) (K X : Kn) (h : F10 g K) : FCalls Tryd.prog 10 (argsT S10 L10 g) [] K X :=
  FCalls.settle0 (dfun_sound (Γ := gamX [] []) (mu := isRaw []) (H := H10) (J := J10) D_ok (gamX_ok (rs := []) (l := []) (fun p hp => by cases hp) (fun p hp => by cases hp)) gamX_det rfl Tryd.func10 (c := codeOf Tryd.f10) rfl Tryd.ntmps10 (rs := [.tmp 2]) Tryd.results10 (by unfold enters; rw [Tryd.func10]; kernel_rfl) (Nat.le_of_ble_eq_true (by kernel_rfl)) (X := X) (c0 := 0) (Eq.mp (F10_eq g K X) h))
end Go.Proofs.YtoclmkbjgmgekaaDoor
