/- What functions come to: printed by exf.py. -/
import Derived.Test.YtpbkhdeehlikfaaDoorCL
namespace Go.Proofs.YtpbkhdeehlikfaaDoor
set_option linter.unusedVariables false
set_option linter.unusedSimpArgs false
set_option linter.unusedSectionVars false
open Go.RowKit
attribute [local irreducible] dfun dround
/-- quilt/quiltref01.Read -/
def H13 : List (Nat × Hint) := []
def J13 : List (Nat × Hint) := [(2, ⟨[((2, []), none), ((5, []), none), ((6, []), none)], [(2, .pt 0 0), (5, .pt 1 0), (6, .pt 2 0)], [.cells [.leaf, .leaf, .nil], .cells [.leaf, .leaf, .leaf], .cells [.leaf, .leaf, .leaf, .leaf]], [.bool, .str, .bool, .str, .sl .sexp, .str, .int .i64, .int .i64, .int .i64]⟩)]
abbrev S13 : List Sh := [.leaf]
abbrev L13 : List Lf := [.str]
def F13_J7 (K : Kn) (t1_6 : Bool) (t2_6 : ByteArray) (x1_6 : Bool) (x2_6 : ByteArray) (x3_6 : List Sx) (r1_6 : ByteArray) (r2_6 : Int) (r3_6 : Int) (r4_6 : Int) : Prop :=
  bif !decide (r4_6 = 0) then (
    K (.tu [.ag [.bool false, .str (⟨#[]⟩ : ByteArray), .nil], .int .i64 0, .int .i64 r4_6]) [])
  else (
    K (.tu [.ag [.bool x1_6, .str x2_6, .sl false .sexp x3_6], .int .i64 r2_6, .int .i64 0]) [])
def F13 (g : prodL L13) (K : Kn) : Prop :=
  readPre (g.1, 0, 20000, 0, 12, ()) ∧
  Res.go (rdS (12 : Int).toNat (20000 - (20000 : Int)).toNat ((bl g.1).drop (0 : Int).toNat)) (fun a1 =>
  F13_J7 K false (⟨#[]⟩ : ByteArray) a1.1.isList a1.1.atom a1.1.list g.1 ((g.1.size : Int) - (a1.2.2.length : Int)) (20000 - (a1.2.1 : Int)) 0) (fun e2 => ∀ (y5 : Sx) (p3 m4 : Int),
  F13_J7 K false (⟨#[]⟩ : ByteArray) y5.isList y5.atom y5.list g.1 p3 m4 e2)
theorem F13_eq (g : prodL L13) (K X : Kn) : F13 g K = dfun D (gamX [(28, rw28)] []) (isRaw [(28, rw28)]) H13 J13 22 [.cell 2 25, .tmp 3, .tmp 4] (codeOf Tryd.f13) (argsT S13 L13 g) [] (settle0 K) X := by kernel_rfl
theorem F13_ok (g : prodL L13) (K X : Kn) (h : F13 g K) : FCalls Tryd.prog 13 (argsT S13 L13 g) [] K X :=
  FCalls.settle0 (dfun_sound (Γ := gamX [(28, rw28)] []) (mu := isRaw [(28, rw28)]) (H := H13) (J := J13) D_ok (gamX_ok (rs := [(28, rw28)]) (l := []) (by intro p hp; simp only [List.mem_cons, List.not_mem_nil, or_false] at hp; subst hp; exact rw28_ok) (fun p hp => by cases hp)) gamX_det rfl Tryd.func13 (c := codeOf Tryd.f13) rfl Tryd.ntmps13 (rs := [.cell 2 25, .tmp 3, .tmp 4]) Tryd.results13 (by unfold enters; rw [Tryd.func13]; kernel_rfl) (Nat.le_of_ble_eq_true (by kernel_rfl)) (X := X) (c0 := 0) (Eq.mp (F13_eq g K X) h))
/-- quilt/csexp.Decode -/
def H14 : List (Nat × Hint) := []
def J14 : List (Nat × Hint) := []
abbrev S14 : List Sh := [.leaf]
abbrev L14 : List Lf := [.str]
def F14 (g : prodL L14) (K : Kn) : Prop :=
  sp12.pre (g.1, ()) ∧
  bif !decide ((rdT g.1).2.2 = 0) then (
    K (.tu [.ag [.bool false, .str (⟨#[]⟩ : ByteArray), .nil], .int .i64 ((rdT g.1).2.2)]) [])
  else (
    bif !decide ((rdT g.1).2.1 = (g.1.size : Int)) then (
    K (.tu [.ag [.bool false, .str (⟨#[]⟩ : ByteArray), .nil], .int .i64 12]) [])
  else (
    K (.tu [.ag [.bool ((rdT g.1).1.isList), .str ((rdT g.1).1.atom), .sl false .sexp ((rdT g.1).1.list)], .int .i64 0]) []))
theorem F14_eq (g : prodL L14) (K X : Kn) : F14 g K = dfun D (gamX [] [(12, false, sp12)]) (isRaw []) H14 J14 23 [.cell 2 25, .tmp 3] (codeOf Tryd.f14) (argsT S14 L14 g) [] (settle0 K) X := by kernel_rfl
theorem F14_ok (g : prodL L14) (K X : Kn) (h : F14 g K) : FCalls Tryd.prog 14 (argsT S14 L14 g) [] K X :=
  FCalls.settle0 (dfun_sound (Γ := gamX [] [(12, false, sp12)]) (mu := isRaw []) (H := H14) (J := J14) D_ok (gamX_ok (rs := []) (l := [(12, false, sp12)]) (fun p hp => by cases hp) (by intro p hp; simp only [List.mem_cons, List.not_mem_nil, or_false] at hp; subst hp; exact sp12_ok)) gamX_det rfl Tryd.func14 (c := codeOf Tryd.f14) rfl Tryd.ntmps14 (rs := [.cell 2 25, .tmp 3]) Tryd.results14 (by unfold enters; rw [Tryd.func14]; kernel_rfl) (Nat.le_of_ble_eq_true (by kernel_rfl)) (X := X) (c0 := 0) (Eq.mp (F14_eq g K X) h))
/-- quilt/csexp.Check -/
def H22 : List (Nat × Hint) := []
def J22 : List (Nat × Hint) := []
abbrev S22 : List Sh := [.ag [.leaf, .leaf, .leaf]]
abbrev L22 : List Lf := [.bool, .str, .sl .sexp]
def F22 (g : prodL L22) (K : Kn) : Prop :=
  addPre (g.1, g.2.1, g.2.2.1, 1, 0, false, ()) ∧
  bif (madd ⟨g.1, g.2.1, g.2.2.1⟩ 0 false 1).2 then (
    K (.int .i64 4) [])
  else (
    sp37.pre (g.1, g.2.1, g.2.2.1, ()) ∧
  K (.int .i64 (shS ⟨g.1, g.2.1, g.2.2.1⟩)) [])
theorem F22_eq (g : prodL L22) (K X : Kn) : F22 g K = dfun D (gamX [(36, rw36)] [(37, true, sp37)]) (isRaw [(36, rw36)]) H22 J22 15 [.tmp 2] (codeOf Tryd.f22) (argsT S22 L22 g) [] (settle0 K) X := by kernel_rfl
theorem F22_ok (g : prodL L22) (K X : Kn) (h : F22 g K) : FCalls Tryd.prog 22 (argsT S22 L22 g) [] K X :=
  FCalls.settle0 (dfun_sound (Γ := gamX [(36, rw36)] [(37, true, sp37)]) (mu := isRaw [(36, rw36)]) (H := H22) (J := J22) D_ok (gamX_ok (rs := [(36, rw36)]) (l := [(37, true, sp37)]) (by intro p hp; simp only [List.mem_cons, List.not_mem_nil, or_false] at hp; subst hp; exact rw36_ok) (by intro p hp; simp only [List.mem_cons, List.not_mem_nil, or_false] at hp; subst hp; exact sp37_ok)) gamX_det rfl Tryd.func22 (c := codeOf Tryd.f22) rfl Tryd.ntmps22 (rs := [.tmp 2]) Tryd.results22 (by unfold enters; rw [Tryd.func22]; kernel_rfl) (Nat.le_of_ble_eq_true (by kernel_rfl)) (X := X) (c0 := 0) (Eq.mp (F22_eq g K X) h))
/-- quilt/quiltref01.Check -/
def H25 : List (Nat × Hint) := []
def J25 : List (Nat × Hint) := []
abbrev S25 : List Sh := [.ag [.leaf, .leaf, .leaf]]
abbrev L25 : List Lf := [.bool, .str, .sl .sexp]
def F25 (g : prodL L25) (K : Kn) : Prop :=
  sp29.pre (g.1, g.2.1, g.2.2.1, 20000, 12, ()) ∧
  bif decide (20000 < cnt ⟨g.1, g.2.1, g.2.2.1⟩ 20000 12) then (
    K (.int .i64 4) [])
  else (
    sp41.pre (g.1, g.2.1, g.2.2.1, ()) ∧
  K (.int .i64 (ckR ⟨g.1, g.2.1, g.2.2.1⟩)) [])
theorem F25_eq (g : prodL L25) (K X : Kn) : F25 g K = dfun D (gamX [] [(29, true, sp29), (41, true, sp41)]) (isRaw []) H25 J25 8 [.tmp 2] (codeOf Tryd.f25) (argsT S25 L25 g) [] (settle0 K) X := by kernel_rfl
theorem F25_ok (g : prodL L25) (K X : Kn) (h : F25 g K) : FCalls Tryd.prog 25 (argsT S25 L25 g) [] K X :=
  FCalls.settle0 (dfun_sound (Γ := gamX [] [(29, true, sp29), (41, true, sp41)]) (mu := isRaw []) (H := H25) (J := J25) D_ok (gamX_ok (rs := []) (l := [(29, true, sp29), (41, true, sp41)]) (fun p hp => by cases hp) (by intro p hp; simp only [List.mem_cons, List.not_mem_nil, or_false] at hp; rcases hp with rfl | rfl <;> first | exact sp29_ok | exact sp41_ok)) gamX_det rfl Tryd.func25 (c := codeOf Tryd.f25) rfl Tryd.ntmps25 (rs := [.tmp 2]) Tryd.results25 (by unfold enters; rw [Tryd.func25]; kernel_rfl) (Nat.le_of_ble_eq_true (by kernel_rfl)) (X := X) (c0 := 0) (Eq.mp (F25_eq g K X) h))
/-- quilt/csexp.Int -/
def H18 : List (Nat × Hint) := []
def J18 : List (Nat × Hint) := [(2, ⟨[((2, []), none)], [(0, .leaf), (2, .pt 0 0), (9, .leaf)], [.cells [.leaf, .leaf, .nil]], [.int .i64, .bool, .bool, .str]⟩)]
abbrev S18 : List Sh := [.leaf]
abbrev L18 : List Lf := [.int .i64]
def F18_J2 (K : Kn) (n_1 : Int) (t_1 : Bool) (t1_1 : Bool) (t2_1 : ByteArray) : Prop :=
  bif t_1 then (
    K (.tu [.ag [.bool false, .str (⟨#[]⟩ : ByteArray), .nil], .int .i64 2]) [])
  else (
    sp31.pre (n_1, ()) ∧
  K (.tu [.ag [.bool false, .str (decB n_1), .nil], .int .i64 0]) [])
def F18 (g : prodL L18) (K : Kn) : Prop :=
  bif decide (g.1 < (-1099511627776)) then (
    F18_J2 K g.1 true false (⟨#[]⟩ : ByteArray))
  else (
    F18_J2 K g.1 (decide (1099511627776 < g.1)) false (⟨#[]⟩ : ByteArray))
theorem F18_eq (g : prodL L18) (K X : Kn) : F18 g K = dfun D (gamX [] [(31, true, sp31)]) (isRaw []) H18 J18 14 [.cell 2 25, .tmp 3] (codeOf Tryd.f18) (argsT S18 L18 g) [] (settle0 K) X := by kernel_rfl
theorem F18_ok (g : prodL L18) (K X : Kn) (h : F18 g K) : FCalls Tryd.prog 18 (argsT S18 L18 g) [] K X :=
  FCalls.settle0 (dfun_sound (Γ := gamX [] [(31, true, sp31)]) (mu := isRaw []) (H := H18) (J := J18) D_ok (gamX_ok (rs := []) (l := [(31, true, sp31)]) (fun p hp => by cases hp) (by intro p hp; simp only [List.mem_cons, List.not_mem_nil, or_false] at hp; subst hp; exact sp31_ok)) gamX_det rfl Tryd.func18 (c := codeOf Tryd.f18) rfl Tryd.ntmps18 (rs := [.cell 2 25, .tmp 3]) Tryd.results18 (by unfold enters; rw [Tryd.func18]; kernel_rfl) (Nat.le_of_ble_eq_true (by kernel_rfl)) (X := X) (c0 := 0) (Eq.mp (F18_eq g K X) h))
end Go.Proofs.YtpbkhdeehlikfaaDoor
