/- What functions come to: printed by exf.py. -/
import Derived.Test.YtpbkhdeehlikfaaDoorCB
namespace Go.Proofs.YtpbkhdeehlikfaaDoor
set_option linter.unusedVariables false
set_option linter.unusedSimpArgs false
set_option linter.unusedSectionVars false
open Go.RowKit
attribute [local irreducible] dfun dround
/-- quilt/quiltref01.count -/
def H29 : List (Nat × Hint) := [(7, ⟨[((3, []), none)], [(1, .leaf), (2, .leaf), (3, .pt 0 0), (7, .leaf), (8, .leaf)], [.cells [.leaf, .leaf, .leaf]], [.int .i64, .int .i64, .int .i64, .int .i64, .bool, .str, .sl .sexp]⟩)]
def J29 : List (Nat × Hint) := [(2, ⟨[((3, []), none)], [(1, .leaf), (2, .leaf), (3, .pt 0 0), (14, .leaf)], [.cells [.leaf, .leaf, .leaf]], [.int .i64, .int .i64, .bool, .bool, .str, .sl .sexp]⟩), (10, ⟨[], [(7, .leaf)], [], [.int .i64]⟩)]
abbrev S29 : List Sh := [.ag [.leaf, .leaf, .leaf], .leaf, .leaf]
abbrev L29 : List Lf := [.bool, .str, .sl .sexp, .int .i64, .int .i64]
def spz29 (Z : prodL L29 → Prop) : Sp := ⟨S29, L29, Z, fun g => .int .i64 (cnt ⟨g.1, g.2.1, g.2.2.1⟩ g.2.2.2.1 g.2.2.2.2.1), fun _ => none⟩
def F29_J7 (K : Kn) (n_6 : Int) : Prop :=
  K (.int .i64 n_6) []
def F29_B4 (K : Kn) (Z : prodL L29 → Prop) (W4 : prodL [.int .i64, .int .i64, .int .i64, .int .i64, .bool, .str, .sl .sexp] → Prop) (limit_3 : Int) (depth_3 : Int) (n_3 : Int) (i_3 : Int) (x1_3 : Bool) (x2_3 : ByteArray) (x3_3 : List Sx) : Prop :=
  bif decide (i_3 < (x3_3.length : Int)) then (
    bif decide (n_3 ≤ limit_3) then (
    At x3_3 i_3 fun u5 =>
  Z (u5.isList, u5.atom, u5.list, IntKind.i64.wrap (limit_3 - n_3), IntKind.i64.wrap (depth_3 - 1), ()) ∧
  W4 (limit_3, depth_3, IntKind.i64.wrap (n_3 + (cnt ⟨u5.isList, u5.atom, u5.list⟩ (IntKind.i64.wrap (limit_3 - n_3)) (IntKind.i64.wrap (depth_3 - 1)))), IntKind.i64.wrap (i_3 + 1), x1_3, x2_3, x3_3, ()))
  else (
    F29_J7 K n_3))
  else (
    F29_J7 K n_3)
def F29_L4 (K : Kn) (Z : prodL L29 → Prop) (g : prodL [.int .i64, .int .i64, .int .i64, .int .i64, .bool, .str, .sl .sexp]) : Prop :=
  LoopW (γ := prodL [.int .i64, .int .i64, .int .i64, .int .i64, .bool, .str, .sl .sexp]) (fun V y => F29_B4 K Z V y.1 y.2.1 y.2.2.1 y.2.2.2.1 y.2.2.2.2.1 y.2.2.2.2.2.1 y.2.2.2.2.2.2.1) g
def F29_J2 (K : Kn) (Z : prodL L29 → Prop) (limit_1 : Int) (depth_1 : Int) (t_1 : Bool) (x1_1 : Bool) (x2_1 : ByteArray) (x3_1 : List Sx) : Prop :=
  bif t_1 then (
    K (.int .i64 (IntKind.i64.wrap (limit_1 + 1))) [])
  else (
    bif !x1_1 then (
    K (.int .i64 1) [])
  else (
    F29_L4 K Z (limit_1, depth_1, 1, 0, x1_1, x2_1, x3_1, ())))
def F29 (Z : prodL L29 → Prop) (g : prodL L29) (K : Kn) : Prop :=
  bif decide (g.2.2.2.2.1 < 1) then (
    F29_J2 K Z g.2.2.2.1 g.2.2.2.2.1 true g.1 g.2.1 g.2.2.1)
  else (
    F29_J2 K Z g.2.2.2.1 g.2.2.2.2.1 (decide (g.2.2.2.1 < 1)) g.1 g.2.1 g.2.2.1)
theorem F29_eq (Z : prodL L29 → Prop) (g : prodL L29) (K X : Kn) : F29 Z g K = dfun D (gamX [] [(29, true, spz29 Z)]) (isRaw []) H29 J29 47 [.tmp 6] (codeOf Tryd.f29) (argsT S29 L29 g) [] (settle0 K) X := by kernel_rfl
theorem F29_ok (Z : prodL L29 → Prop) (hZ : (spz29 Z).Ok Tryd.prog 29 true) (g : prodL L29) (K X : Kn) (h : F29 Z g K) : FCalls Tryd.prog 29 (argsT S29 L29 g) [] K X :=
  FCalls.settle0 (dfun_sound (Γ := gamX [] [(29, true, spz29 Z)]) (mu := isRaw []) (H := H29) (J := J29) D_ok (gamX_ok (rs := []) (l := [(29, true, spz29 Z)]) (fun p hp => by cases hp) (by intro p hp; simp only [List.mem_cons, List.not_mem_nil, or_false] at hp; subst hp; exact hZ)) gamX_det rfl Tryd.func29 (c := codeOf Tryd.f29) rfl Tryd.ntmps29 (rs := [.tmp 6]) Tryd.results29 (by unfold enters; rw [Tryd.func29]; kernel_rfl) (Nat.le_of_ble_eq_true (by kernel_rfl)) (X := X) (c0 := 0) (Eq.mp (F29_eq Z g K X) h))
/-- quilt/quiltref01.long -/
def H30 : List (Nat × Hint) := [(2, ⟨[((1, []), none)], [(1, .pt 0 0), (3, .leaf)], [.cells [.leaf, .leaf, .leaf]], [.int .i64, .bool, .str, .sl .sexp]⟩)]
def J30 : List (Nat × Hint) := [(6, ⟨[((1, []), none)], [(1, .pt 0 0)], [.cells [.leaf, .leaf, .leaf]], [.bool, .str, .sl .sexp]⟩)]
abbrev S30 : List Sh := [.ag [.leaf, .leaf, .leaf]]
abbrev L30 : List Lf := [.bool, .str, .sl .sexp]
def spz30 (Z : prodL L30 → Prop) : Sp := ⟨S30, L30, Z, fun g => .bool (lgR ⟨g.1, g.2.1, g.2.2.1⟩), fun _ => none⟩
def F30_J5 (K : Kn) (x1_4 : Bool) (x2_4 : ByteArray) (x3_4 : List Sx) : Prop :=
  bif decide (200 < (x2_4.size : Int)) then (
    K (.bool true) [])
  else (
    K (.bool (decide (60 < (x3_4.length : Int)))) [])
def F30_B2 (K : Kn) (Z : prodL L30 → Prop) (W2 : prodL [.int .i64, .bool, .str, .sl .sexp] → Prop) (i_1 : Int) (x1_1 : Bool) (x2_1 : ByteArray) (x3_1 : List Sx) : Prop :=
  bif decide (i_1 < (x3_1.length : Int)) then (
    bif x1_1 then (
    At x3_1 i_1 fun u3 =>
  Z (u3.isList, u3.atom, u3.list, ()) ∧
  bif lgR ⟨u3.isList, u3.atom, u3.list⟩ then (
    K (.bool true) [])
  else (
    W2 (IntKind.i64.wrap (i_1 + 1), x1_1, x2_1, x3_1, ())))
  else (
    F30_J5 K x1_1 x2_1 x3_1))
  else (
    F30_J5 K x1_1 x2_1 x3_1)
def F30_L2 (K : Kn) (Z : prodL L30 → Prop) (g : prodL [.int .i64, .bool, .str, .sl .sexp]) : Prop :=
  LoopW (γ := prodL [.int .i64, .bool, .str, .sl .sexp]) (fun V y => F30_B2 K Z V y.1 y.2.1 y.2.2.1 y.2.2.2.1) g
def F30 (Z : prodL L30 → Prop) (g : prodL L30) (K : Kn) : Prop :=
  F30_L2 K Z (0, g.1, g.2.1, g.2.2.1, ())
theorem F30_eq (Z : prodL L30 → Prop) (g : prodL L30) (K X : Kn) : F30 Z g K = dfun D (gamX [] [(30, true, spz30 Z)]) (isRaw []) H30 J30 31 [.tmp 2] (codeOf Tryd.f30) (argsT S30 L30 g) [] (settle0 K) X := by kernel_rfl
theorem F30_ok (Z : prodL L30 → Prop) (hZ : (spz30 Z).Ok Tryd.prog 30 true) (g : prodL L30) (K X : Kn) (h : F30 Z g K) : FCalls Tryd.prog 30 (argsT S30 L30 g) [] K X :=
  FCalls.settle0 (dfun_sound (Γ := gamX [] [(30, true, spz30 Z)]) (mu := isRaw []) (H := H30) (J := J30) D_ok (gamX_ok (rs := []) (l := [(30, true, spz30 Z)]) (fun p hp => by cases hp) (by intro p hp; simp only [List.mem_cons, List.not_mem_nil, or_false] at hp; subst hp; exact hZ)) gamX_det rfl Tryd.func30 (c := codeOf Tryd.f30) rfl Tryd.ntmps30 (rs := [.tmp 2]) Tryd.results30 (by unfold enters; rw [Tryd.func30]; kernel_rfl) (Nat.le_of_ble_eq_true (by kernel_rfl)) (X := X) (c0 := 0) (Eq.mp (F30_eq Z g K X) h))
/-- quilt/quiltref01.check -/
def H41 : List (Nat × Hint) := [(10, ⟨[((1, []), none)], [(1, .pt 0 0), (3, .leaf)], [.cells [.leaf, .leaf, .leaf]], [.int .i64, .bool, .str, .sl .sexp]⟩)]
def J41 : List (Nat × Hint) := []
abbrev S41 : List Sh := [.ag [.leaf, .leaf, .leaf]]
abbrev L41 : List Lf := [.bool, .str, .sl .sexp]
def spz41 (Z : prodL L41 → Prop) : Sp := ⟨S41, L41, Z, fun g => .int .i64 (ckR ⟨g.1, g.2.1, g.2.2.1⟩), fun _ => none⟩
def F41_B2 (K : Kn) (Z : prodL L41 → Prop) (W2 : prodL [.int .i64, .bool, .str, .sl .sexp] → Prop) (i_1 : Int) (x1_1 : Bool) (x2_1 : ByteArray) (x3_1 : List Sx) : Prop :=
  bif decide (i_1 < (x3_1.length : Int)) then (
    At x3_1 i_1 fun u3 =>
  Z (u3.isList, u3.atom, u3.list, ()) ∧
  bif !decide (ckR ⟨u3.isList, u3.atom, u3.list⟩ = 0) then (
    K (.int .i64 (ckR ⟨u3.isList, u3.atom, u3.list⟩)) [])
  else (
    W2 (IntKind.i64.wrap (i_1 + 1), x1_1, x2_1, x3_1, ())))
  else (
    K (.int .i64 0) [])
def F41_L2 (K : Kn) (Z : prodL L41 → Prop) (g : prodL [.int .i64, .bool, .str, .sl .sexp]) : Prop :=
  LoopW (γ := prodL [.int .i64, .bool, .str, .sl .sexp]) (fun V y => F41_B2 K Z V y.1 y.2.1 y.2.2.1 y.2.2.2.1) g
def F41 (Z : prodL L41 → Prop) (g : prodL L41) (K : Kn) : Prop :=
  bif !g.1 then (
    bif decide (0 < (g.2.2.1.length : Int)) then (
      K (.int .i64 1) [])
    else (
      bif decide (65536 < (g.2.1.size : Int)) then (
      K (.int .i64 4) [])
    else (
      K (.int .i64 0) [])))
  else (
    bif !decide (g.2.1 = (⟨#[]⟩ : ByteArray)) then (
    K (.int .i64 1) [])
  else (
    F41_L2 K Z (0, g.1, g.2.1, g.2.2.1, ())))
theorem F41_eq (Z : prodL L41 → Prop) (g : prodL L41) (K X : Kn) : F41 Z g K = dfun D (gamX [] [(41, true, spz41 Z)]) (isRaw []) H41 J41 35 [.tmp 2] (codeOf Tryd.f41) (argsT S41 L41 g) [] (settle0 K) X := by kernel_rfl
theorem F41_ok (Z : prodL L41 → Prop) (hZ : (spz41 Z).Ok Tryd.prog 41 true) (g : prodL L41) (K X : Kn) (h : F41 Z g K) : FCalls Tryd.prog 41 (argsT S41 L41 g) [] K X :=
  FCalls.settle0 (dfun_sound (Γ := gamX [] [(41, true, spz41 Z)]) (mu := isRaw []) (H := H41) (J := J41) D_ok (gamX_ok (rs := []) (l := [(41, true, spz41 Z)]) (fun p hp => by cases hp) (by intro p hp; simp only [List.mem_cons, List.not_mem_nil, or_false] at hp; subst hp; exact hZ)) gamX_det rfl Tryd.func41 (c := codeOf Tryd.f41) rfl Tryd.ntmps41 (rs := [.tmp 2]) Tryd.results41 (by unfold enters; rw [Tryd.func41]; kernel_rfl) (Nat.le_of_ble_eq_true (by kernel_rfl)) (X := X) (c0 := 0) (Eq.mp (F41_eq Z g K X) h))
/-- quilt/csexp.shape -/
def H37 : List (Nat × Hint) := [(6, ⟨[], [(31, .leaf), (32, .leaf), (33, .leaf)], [], [.sl .sexp, .int .i64, .int .i64]⟩)]
def J37 : List (Nat × Hint) := [(2, ⟨[((1, []), none)], [(1, .pt 0 0), (6, .leaf)], [.cells [.leaf, .leaf, .leaf]], [.bool, .bool, .str, .sl .sexp]⟩)]
abbrev S37 : List Sh := [.ag [.leaf, .leaf, .leaf]]
abbrev L37 : List Lf := [.bool, .str, .sl .sexp]
def spz37 (Z : prodL L37 → Prop) : Sp := ⟨S37, L37, Z, fun g => .int .i64 (shS ⟨g.1, g.2.1, g.2.2.1⟩), fun _ => none⟩
def F37_B4 (K : Kn) (Z : prodL L37 → Prop) (W4 : prodL [.sl .sexp, .int .i64, .int .i64] → Prop) (t_3 : List Sx) (t2_3 : Int) (t3_3 : Int) : Prop :=
  bif decide (t3_3 < t2_3) then (
    At t_3 t3_3 fun u5 =>
  Z (u5.isList, u5.atom, u5.list, ()) ∧
  bif !decide (shS ⟨u5.isList, u5.atom, u5.list⟩ = 0) then (
    K (.int .i64 (shS ⟨u5.isList, u5.atom, u5.list⟩)) [])
  else (
    W4 (t_3, t2_3, IntKind.i64.wrap (t3_3 + 1), ())))
  else (
    K (.int .i64 0) [])
def F37_L4 (K : Kn) (Z : prodL L37 → Prop) (g : prodL [.sl .sexp, .int .i64, .int .i64]) : Prop :=
  LoopW (γ := prodL [.sl .sexp, .int .i64, .int .i64]) (fun V y => F37_B4 K Z V y.1 y.2.1 y.2.2.1) g
def F37_J2 (K : Kn) (Z : prodL L37 → Prop) (t_1 : Bool) (x1_1 : Bool) (x2_1 : ByteArray) (x3_1 : List Sx) : Prop :=
  bif t_1 then (
    K (.int .i64 1) [])
  else (
    bif decide (65536 < (x2_1.size : Int)) then (
      K (.int .i64 4) [])
    else (
      F37_L4 K Z (x3_1, (x3_1.length : Int), 0, ())))
def F37 (Z : prodL L37 → Prop) (g : prodL L37) (K : Kn) : Prop :=
  bif g.1 then (
    bif !decide (g.2.1 = (⟨#[]⟩ : ByteArray)) then (
      F37_J2 K Z true g.1 g.2.1 g.2.2.1)
    else (
      bif !g.1 then (
        F37_J2 K Z (decide (0 < (g.2.2.1.length : Int))) g.1 g.2.1 g.2.2.1)
      else (
        F37_J2 K Z false g.1 g.2.1 g.2.2.1)))
  else (
    bif !g.1 then (
      F37_J2 K Z (decide (0 < (g.2.2.1.length : Int))) g.1 g.2.1 g.2.2.1)
    else (
      F37_J2 K Z false g.1 g.2.1 g.2.2.1))
theorem F37_eq (Z : prodL L37 → Prop) (g : prodL L37) (K X : Kn) : F37 Z g K = dfun D (gamX [] [(37, true, spz37 Z)]) (isRaw []) H37 J37 43 [.tmp 2] (codeOf Tryd.f37) (argsT S37 L37 g) [] (settle0 K) X := by kernel_rfl
theorem F37_ok (Z : prodL L37 → Prop) (hZ : (spz37 Z).Ok Tryd.prog 37 true) (g : prodL L37) (K X : Kn) (h : F37 Z g K) : FCalls Tryd.prog 37 (argsT S37 L37 g) [] K X :=
  FCalls.settle0 (dfun_sound (Γ := gamX [] [(37, true, spz37 Z)]) (mu := isRaw []) (H := H37) (J := J37) D_ok (gamX_ok (rs := []) (l := [(37, true, spz37 Z)]) (fun p hp => by cases hp) (by intro p hp; simp only [List.mem_cons, List.not_mem_nil, or_false] at hp; subst hp; exact hZ)) gamX_det rfl Tryd.func37 (c := codeOf Tryd.f37) rfl Tryd.ntmps37 (rs := [.tmp 2]) Tryd.results37 (by unfold enters; rw [Tryd.func37]; kernel_rfl) (Nat.le_of_ble_eq_true (by kernel_rfl)) (X := X) (c0 := 0) (Eq.mp (F37_eq Z g K X) h))
/-- quilt/quiltref01.Same -/
def H16 : List (Nat × Hint) := [(4, ⟨[((2, []), none), ((3, []), none)], [(2, .pt 0 0), (3, .pt 1 0), (5, .leaf)], [.cells [.leaf, .leaf, .leaf], .cells [.leaf, .leaf, .leaf]], [.int .i64, .bool, .str, .sl .sexp, .bool, .str, .sl .sexp]⟩)]
def J16 : List (Nat × Hint) := [(2, ⟨[((2, []), none), ((3, []), none)], [(2, .pt 0 0), (3, .pt 1 0), (26, .leaf)], [.cells [.leaf, .leaf, .leaf], .cells [.leaf, .leaf, .leaf]], [.bool, .bool, .str, .sl .sexp, .bool, .str, .sl .sexp]⟩)]
abbrev S16 : List Sh := [.ag [.leaf, .leaf, .leaf], .ag [.leaf, .leaf, .leaf]]
abbrev L16 : List Lf := [.bool, .str, .sl .sexp, .bool, .str, .sl .sexp]
def spz16 (Z : prodL L16 → Prop) : Sp := ⟨S16, L16, Z, fun g => .bool (smR ⟨g.1, g.2.1, g.2.2.1⟩ ⟨g.2.2.2.1, g.2.2.2.2.1, g.2.2.2.2.2.1⟩), fun _ => none⟩
def F16_B4 (K : Kn) (Z : prodL L16 → Prop) (W4 : prodL [.int .i64, .bool, .str, .sl .sexp, .bool, .str, .sl .sexp] → Prop) (i_3 : Int) (a1_3 : Bool) (a2_3 : ByteArray) (a3_3 : List Sx) (b1_3 : Bool) (b2_3 : ByteArray) (b3_3 : List Sx) : Prop :=
  bif decide (i_3 < (a3_3.length : Int)) then (
    At a3_3 i_3 fun u5 =>
  At b3_3 i_3 fun u6 =>
  Z (u5.isList, u5.atom, u5.list, u6.isList, u6.atom, u6.list, ()) ∧
  bif !(smR ⟨u5.isList, u5.atom, u5.list⟩ ⟨u6.isList, u6.atom, u6.list⟩) then (
    K (.bool false) [])
  else (
    W4 (IntKind.i64.wrap (i_3 + 1), a1_3, a2_3, a3_3, b1_3, b2_3, b3_3, ())))
  else (
    K (.bool true) [])
def F16_L4 (K : Kn) (Z : prodL L16 → Prop) (g : prodL [.int .i64, .bool, .str, .sl .sexp, .bool, .str, .sl .sexp]) : Prop :=
  LoopW (γ := prodL [.int .i64, .bool, .str, .sl .sexp, .bool, .str, .sl .sexp]) (fun V y => F16_B4 K Z V y.1 y.2.1 y.2.2.1 y.2.2.2.1 y.2.2.2.2.1 y.2.2.2.2.2.1 y.2.2.2.2.2.2.1) g
def F16_J2 (K : Kn) (Z : prodL L16 → Prop) (t_1 : Bool) (a1_1 : Bool) (a2_1 : ByteArray) (a3_1 : List Sx) (b1_1 : Bool) (b2_1 : ByteArray) (b3_1 : List Sx) : Prop :=
  bif t_1 then (
    K (.bool false) [])
  else (
    F16_L4 K Z (0, a1_1, a2_1, a3_1, b1_1, b2_1, b3_1, ()))
def F16 (Z : prodL L16 → Prop) (g : prodL L16) (K : Kn) : Prop :=
  bif !decide (g.1 = g.2.2.2.1) then (
    F16_J2 K Z true g.1 g.2.1 g.2.2.1 g.2.2.2.1 g.2.2.2.2.1 g.2.2.2.2.2.1)
  else (
    bif !decide (g.2.1 = g.2.2.2.2.1) then (
      F16_J2 K Z true g.1 g.2.1 g.2.2.1 g.2.2.2.1 g.2.2.2.2.1 g.2.2.2.2.2.1)
    else (
      F16_J2 K Z (!decide ((g.2.2.1.length : Int) = (g.2.2.2.2.2.1.length : Int))) g.1 g.2.1 g.2.2.1 g.2.2.2.1 g.2.2.2.2.1 g.2.2.2.2.2.1))
theorem F16_eq (Z : prodL L16 → Prop) (g : prodL L16) (K X : Kn) : F16 Z g K = dfun D (gamX [] [(16, true, spz16 Z)]) (isRaw []) H16 J16 46 [.tmp 4] (codeOf Tryd.f16) (argsT S16 L16 g) [] (settle0 K) X := by kernel_rfl
theorem F16_ok (Z : prodL L16 → Prop) (hZ : (spz16 Z).Ok Tryd.prog 16 true) (g : prodL L16) (K X : Kn) (h : F16 Z g K) : FCalls Tryd.prog 16 (argsT S16 L16 g) [] K X :=
  FCalls.settle0 (dfun_sound (Γ := gamX [] [(16, true, spz16 Z)]) (mu := isRaw []) (H := H16) (J := J16) D_ok (gamX_ok (rs := []) (l := [(16, true, spz16 Z)]) (fun p hp => by cases hp) (by intro p hp; simp only [List.mem_cons, List.not_mem_nil, or_false] at hp; subst hp; exact hZ)) gamX_det rfl Tryd.func16 (c := codeOf Tryd.f16) rfl Tryd.ntmps16 (rs := [.tmp 4]) Tryd.results16 (by unfold enters; rw [Tryd.func16]; kernel_rfl) (Nat.le_of_ble_eq_true (by kernel_rfl)) (X := X) (c0 := 0) (Eq.mp (F16_eq Z g K X) h))
/-- (*quilt/csexp.measure).add -/
def H36 : List (Nat × Hint) := [(6, ⟨[], [(0, .pt 0 0), (2, .leaf), (31, .leaf), (32, .leaf), (33, .leaf)], [.cells [.leaf, .leaf]], [.int .i64, .sl .sexp, .int .i64, .int .i64, .int .i64, .bool]⟩)]
def J36 : List (Nat × Hint) := [(3, ⟨[((4, []), none)], [(0, .pt 0 0), (2, .leaf), (4, .pt 1 0), (23, .leaf)], [.cells [.leaf, .leaf], .cells [.leaf, .leaf, .leaf]], [.int .i64, .bool, .int .i64, .bool, .bool, .str, .sl .sexp]⟩), (4, ⟨[((4, []), none)], [(0, .pt 0 0), (2, .leaf), (4, .pt 1 0)], [.cells [.leaf, .leaf], .cells [.leaf, .leaf, .leaf]], [.int .i64, .int .i64, .bool, .bool, .str, .sl .sexp]⟩)]
abbrev S36 : List Sh := [.pt 0 0, .ag [.leaf, .leaf, .leaf], .leaf]
abbrev L36 : List Lf := [.bool, .str, .sl .sexp, .int .i64, .int .i64, .bool]
abbrev O36 : List ObSh := [.cells [.leaf, .leaf]]
def rwz36 (Z : prodL L36 → Prop) : Raw := ⟨S36, O36, L36, 0, fun g K X => Z g ∧ addF g K X⟩
def F36_B5 (K : Kn) (Z : prodL L36 → Prop) (W5 : prodL [.int .i64, .sl .sexp, .int .i64, .int .i64, .int .i64, .bool] → Prop) (level_4 : Int) (t_4 : List Sx) (t2_4 : Int) (t3_4 : Int) (o01_4 : Int) (o02_4 : Bool) : Prop :=
  bif decide (t3_4 < t2_4) then (
    At t_4 t3_4 fun u6 =>
  bif o02_4 then (
    K (.tu []) [some (.cells [.int .i64 o01_4, .bool o02_4])])
  else (
    Z (u6.isList, u6.atom, u6.list, IntKind.i64.wrap (level_4 + 1), o01_4, o02_4, ()) ∧
  W5 (level_4, t_4, t2_4, IntKind.i64.wrap (t3_4 + 1), (madd ⟨u6.isList, u6.atom, u6.list⟩ o01_4 o02_4 (IntKind.i64.wrap (level_4 + 1))).1, (madd ⟨u6.isList, u6.atom, u6.list⟩ o01_4 o02_4 (IntKind.i64.wrap (level_4 + 1))).2, ())))
  else (
    K (.tu []) [some (.cells [.int .i64 o01_4, .bool o02_4])])
def F36_L5 (K : Kn) (Z : prodL L36 → Prop) (g : prodL [.int .i64, .sl .sexp, .int .i64, .int .i64, .int .i64, .bool]) : Prop :=
  LoopW (γ := prodL [.int .i64, .sl .sexp, .int .i64, .int .i64, .int .i64, .bool]) (fun V y => F36_B5 K Z V y.1 y.2.1 y.2.2.1 y.2.2.2.1 y.2.2.2.2.1 y.2.2.2.2.2.1) g
def F36_J7 (K : Kn) (Z : prodL L36 → Prop) (level_3 : Int) (o01_3 : Int) (o02_3 : Bool) (x1_3 : Bool) (x2_3 : ByteArray) (x3_3 : List Sx) : Prop :=
  bif !x1_3 then (
    K (.tu []) [some (.cells [.int .i64 o01_3, .bool o02_3])])
  else (
    F36_L5 K Z (level_3, x3_3, (x3_3.length : Int), 0, o01_3, o02_3, ()))
def F36_J2 (K : Kn) (Z : prodL L36 → Prop) (level_1 : Int) (t_1 : Bool) (o01_1 : Int) (o02_1 : Bool) (x1_1 : Bool) (x2_1 : ByteArray) (x3_1 : List Sx) : Prop :=
  bif t_1 then (
    F36_J7 K Z level_1 o01_1 true x1_1 x2_1 x3_1)
  else (
    F36_J7 K Z level_1 o01_1 o02_1 x1_1 x2_1 x3_1)
def F36 (Z : prodL L36 → Prop) (g : prodL L36) (K : Kn) : Prop :=
  bif decide (20000 < IntKind.i64.wrap (g.2.2.2.2.1 + 1)) then (
    F36_J2 K Z g.2.2.2.1 true (IntKind.i64.wrap (g.2.2.2.2.1 + 1)) g.2.2.2.2.2.1 g.1 g.2.1 g.2.2.1)
  else (
    F36_J2 K Z g.2.2.2.1 (decide (12 < g.2.2.2.1)) (IntKind.i64.wrap (g.2.2.2.2.1 + 1)) g.2.2.2.2.2.1 g.1 g.2.1 g.2.2.1)
theorem F36_eq (Z : prodL L36 → Prop) (g : prodL L36) (K X : Kn) : F36 Z g K = dfun D (gamX [(36, rwz36 Z)] []) (isRaw [(36, rwz36 Z)]) H36 J36 47 [] (codeOf Tryd.f36) (argsT S36 L36 g) (storeT S36 O36 L36 g) (settleD (storeT S36 O36 L36 g).length 0 K) X 0 := by kernel_rfl
theorem F36_ok (Z : prodL L36 → Prop) (hZ : (rwz36 Z).Ok Tryd.prog 36) (g : prodL L36) (K X : Kn) (h : F36 Z g K) : FCalls Tryd.prog 36 (argsT S36 L36 g) (storeT S36 O36 L36 g) K X 0 :=
  FCalls.settleD (dfun_sound (Γ := gamX [(36, rwz36 Z)] []) (mu := isRaw [(36, rwz36 Z)]) (H := H36) (J := J36) D_ok (gamX_ok (rs := [(36, rwz36 Z)]) (l := []) (by intro p hp; simp only [List.mem_cons, List.not_mem_nil, or_false] at hp; subst hp; exact hZ) (fun p hp => by cases hp)) gamX_det rfl Tryd.func36 (c := codeOf Tryd.f36) rfl Tryd.ntmps36 (rs := []) Tryd.results36 (by unfold enters; rw [Tryd.func36]; kernel_rfl) (Nat.le_of_ble_eq_true (by kernel_rfl)) (X := X) (c0 := 0) (Eq.mp (F36_eq Z g K X) h))
end Go.Proofs.YtpbkhdeehlikfaaDoor
