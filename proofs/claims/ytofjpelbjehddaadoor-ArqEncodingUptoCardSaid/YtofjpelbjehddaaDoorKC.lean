/- What functions come to: printed by exf.py. -/
import Derived.Test.YtofjpelbjehddaaDoorK2
namespace Go.Proofs.YtofjpelbjehddaaDoor
set_option linter.unusedVariables false
set_option linter.unusedSimpArgs false
set_option linter.unusedSectionVars false
open Go.RowKit
attribute [local irreducible] dfun dround
/-- quilt/arq.Decode -/
def H8 : List (Nat × Hint) := []
def J8 : List (Nat × Hint) := [(3, ⟨[((2, []), none), ((4, []), none)], [(0, .leaf), (2, .pt 0 0), (4, .pt 1 0), (22, .leaf)], [.cells [.leaf, .leaf, .leaf], .cells [.leaf, .leaf, .leaf]], [.str, .bool, .bool, .int .i64, .str, .bool, .str, .sl .sexp]⟩), (8, ⟨[((2, []), none), ((7, []), none)], [(2, .pt 0 0), (7, .pt 1 0), (60, .leaf)], [.cells [.leaf, .leaf, .leaf], .cells [.leaf, .leaf, .leaf]], [.bool, .bool, .int .i64, .str, .bool, .int .i64, .str]⟩)]
abbrev S8 : List Sh := [.leaf]
abbrev L8 : List Lf := [.str]
def F8_J7 (K : Kn) (t_6 : Bool) (t1_6 : Bool) (t2_6 : Int) (t3_6 : ByteArray) (f1_6 : Bool) (f2_6 : Int) (f3_6 : ByteArray) : Prop :=
  bif t_6 then (
    K (.tu [.ag [.bool false, .int .i64 0, .str (⟨#[]⟩ : ByteArray)], .int .i64 12]) [])
  else (
    K (.tu [.ag [.bool f1_6, .int .i64 f2_6, .str f3_6], .int .i64 0]) [])
def F8_J2 (K : Kn) (s_1 : ByteArray) (t_1 : Bool) (t1_1 : Bool) (t2_1 : Int) (t3_1 : ByteArray) (x1_1 : Bool) (x2_1 : ByteArray) (x3_1 : List Sx) : Prop :=
  bif t_1 then (
    K (.tu [.ag [.bool false, .int .i64 0, .str (⟨#[]⟩ : ByteArray)], .int .i64 12]) [])
  else (
    At x3_1 1 fun u3 =>
  sp24.pre (u3.isList, u3.atom, u3.list, ()) ∧
  At x3_1 0 fun u4 =>
  At x3_1 2 fun u5 =>
  sp6.pre (decide (u4.atom = (⟨#[97, 99, 107]⟩ : ByteArray)), (nmG ⟨u3.isList, u3.atom, u3.list⟩).1, u5.atom, ()) ∧
  bif !decide ((nmG ⟨u3.isList, u3.atom, u3.list⟩).2 = 0) then (
    F8_J7 K true t1_1 t2_1 t3_1 (decide (u4.atom = (⟨#[97, 99, 107]⟩ : ByteArray))) ((nmG ⟨u3.isList, u3.atom, u3.list⟩).1) u5.atom)
  else (
    bif !decide ((kEnc ⟨(decide (u4.atom = (⟨#[97, 99, 107]⟩ : ByteArray))), ((nmG ⟨u3.isList, u3.atom, u3.list⟩).1), u5.atom⟩).2 = 0) then (
      F8_J7 K true t1_1 t2_1 t3_1 (decide (u4.atom = (⟨#[97, 99, 107]⟩ : ByteArray))) ((nmG ⟨u3.isList, u3.atom, u3.list⟩).1) u5.atom)
    else (
      F8_J7 K (!decide ((kEnc ⟨(decide (u4.atom = (⟨#[97, 99, 107]⟩ : ByteArray))), ((nmG ⟨u3.isList, u3.atom, u3.list⟩).1), u5.atom⟩).1 = s_1)) t1_1 t2_1 t3_1 (decide (u4.atom = (⟨#[97, 99, 107]⟩ : ByteArray))) ((nmG ⟨u3.isList, u3.atom, u3.list⟩).1) u5.atom)))
def F8 (g : prodL L8) (K : Kn) : Prop :=
  sp23.pre (g.1, ()) ∧
  bif !decide ((dcT g.1).2 = 0) then (
    F8_J2 K g.1 true false 0 (⟨#[]⟩ : ByteArray) ((dcT g.1).1.isList) ((dcT g.1).1.atom) ((dcT g.1).1.list))
  else (
    F8_J2 K g.1 (!decide (((((dcT g.1).1.list).length : Nat) : Int) = 3)) false 0 (⟨#[]⟩ : ByteArray) ((dcT g.1).1.isList) ((dcT g.1).1.atom) ((dcT g.1).1.list))
theorem F8_eq (g : prodL L8) (K X : Kn) : F8 g K = dfun D (gamX [] [(6, true, sp6), (23, false, sp23), (24, true, sp24)]) (isRaw []) H8 J8 63 [.cell 2 23, .tmp 3] (codeOf Tryd.f8) (argsT S8 L8 g) [] (settle0 K) X := by kernel_rfl
theorem F8_ok (g : prodL L8) (K X : Kn) (h : F8 g K) : FCalls Tryd.prog 8 (argsT S8 L8 g) [] K X :=
  FCalls.settle0 (dfun_sound (Γ := gamX [] [(6, true, sp6), (23, false, sp23), (24, true, sp24)]) (mu := isRaw []) (H := H8) (J := J8) D_ok (gamX_ok (rs := []) (l := [(6, true, sp6), (23, false, sp23), (24, true, sp24)]) (fun p hp => by cases hp) (by intro p hp; simp only [List.mem_cons, List.not_mem_nil, or_false] at hp; rcases hp with rfl | rfl | rfl <;> first | exact sp6_ok | exact sp23_ok | exact sp24_ok)) gamX_det rfl Tryd.func8 (c := codeOf Tryd.f8) rfl Tryd.ntmps8 (rs := [.cell 2 23, .tmp 3]) Tryd.results8 (by unfold enters; rw [Tryd.func8]; kernel_rfl) (Nat.le_of_ble_eq_true (by kernel_rfl)) (X := X) (c0 := 0) (Eq.mp (F8_eq g K X) h))
/-- quilt/quiltref49.Decode -/
def H9 : List (Nat × Hint) := []
def J9 : List (Nat × Hint) := [(3, ⟨[((2, []), none), ((4, []), none)], [(0, .leaf), (2, .pt 0 0), (4, .pt 1 0), (22, .leaf)], [.cells [.leaf, .leaf, .leaf], .cells [.leaf, .leaf, .leaf]], [.str, .bool, .bool, .int .i64, .str, .bool, .str, .sl .sexp]⟩), (8, ⟨[((2, []), none), ((7, []), none)], [(2, .pt 0 0), (7, .pt 1 0), (60, .leaf)], [.cells [.leaf, .leaf, .leaf], .cells [.leaf, .leaf, .leaf]], [.bool, .bool, .int .i64, .str, .bool, .int .i64, .str]⟩)]
abbrev S9 : List Sh := [.leaf]
abbrev L9 : List Lf := [.str]
def F9_J7 (K : Kn) (t_6 : Bool) (t1_6 : Bool) (t2_6 : Int) (t3_6 : ByteArray) (f1_6 : Bool) (f2_6 : Int) (f3_6 : ByteArray) : Prop :=
  bif t_6 then (
    K (.tu [.ag [.bool false, .int .i64 0, .str (⟨#[]⟩ : ByteArray)], .int .i64 12]) [])
  else (
    K (.tu [.ag [.bool f1_6, .int .i64 f2_6, .str f3_6], .int .i64 0]) [])
def F9_J2 (K : Kn) (s_1 : ByteArray) (t_1 : Bool) (t1_1 : Bool) (t2_1 : Int) (t3_1 : ByteArray) (x1_1 : Bool) (x2_1 : ByteArray) (x3_1 : List Sx) : Prop :=
  bif t_1 then (
    K (.tu [.ag [.bool false, .int .i64 0, .str (⟨#[]⟩ : ByteArray)], .int .i64 12]) [])
  else (
    At x3_1 1 fun u3 =>
  sp26.pre (u3.isList, u3.atom, u3.list, ()) ∧
  At x3_1 0 fun u4 =>
  At x3_1 2 fun u5 =>
  sp7.pre (decide (u4.atom = (⟨#[97, 99, 107]⟩ : ByteArray)), (nmN ⟨u3.isList, u3.atom, u3.list⟩).1, u5.atom, ()) ∧
  bif !decide ((nmN ⟨u3.isList, u3.atom, u3.list⟩).2 = 0) then (
    F9_J7 K true t1_1 t2_1 t3_1 (decide (u4.atom = (⟨#[97, 99, 107]⟩ : ByteArray))) ((nmN ⟨u3.isList, u3.atom, u3.list⟩).1) u5.atom)
  else (
    bif !decide ((kEnc ⟨(decide (u4.atom = (⟨#[97, 99, 107]⟩ : ByteArray))), ((nmN ⟨u3.isList, u3.atom, u3.list⟩).1), u5.atom⟩).2 = 0) then (
      F9_J7 K true t1_1 t2_1 t3_1 (decide (u4.atom = (⟨#[97, 99, 107]⟩ : ByteArray))) ((nmN ⟨u3.isList, u3.atom, u3.list⟩).1) u5.atom)
    else (
      F9_J7 K (!decide ((kEnc ⟨(decide (u4.atom = (⟨#[97, 99, 107]⟩ : ByteArray))), ((nmN ⟨u3.isList, u3.atom, u3.list⟩).1), u5.atom⟩).1 = s_1)) t1_1 t2_1 t3_1 (decide (u4.atom = (⟨#[97, 99, 107]⟩ : ByteArray))) ((nmN ⟨u3.isList, u3.atom, u3.list⟩).1) u5.atom)))
def F9 (g : prodL L9) (K : Kn) : Prop :=
  sp25.pre (g.1, ()) ∧
  bif !decide ((dcT g.1).2 = 0) then (
    F9_J2 K g.1 true false 0 (⟨#[]⟩ : ByteArray) ((dcT g.1).1.isList) ((dcT g.1).1.atom) ((dcT g.1).1.list))
  else (
    F9_J2 K g.1 (!decide (((((dcT g.1).1.list).length : Nat) : Int) = 3)) false 0 (⟨#[]⟩ : ByteArray) ((dcT g.1).1.isList) ((dcT g.1).1.atom) ((dcT g.1).1.list))
theorem F9_eq (g : prodL L9) (K X : Kn) : F9 g K = dfun D (gamX [] [(7, true, sp7), (25, false, sp25), (26, true, sp26)]) (isRaw []) H9 J9 63 [.cell 2 23, .tmp 3] (codeOf Tryd.f9) (argsT S9 L9 g) [] (settle0 K) X := by kernel_rfl
theorem F9_ok (g : prodL L9) (K X : Kn) (h : F9 g K) : FCalls Tryd.prog 9 (argsT S9 L9 g) [] K X :=
  FCalls.settle0 (dfun_sound (Γ := gamX [] [(7, true, sp7), (25, false, sp25), (26, true, sp26)]) (mu := isRaw []) (H := H9) (J := J9) D_ok (gamX_ok (rs := []) (l := [(7, true, sp7), (25, false, sp25), (26, true, sp26)]) (fun p hp => by cases hp) (by intro p hp; simp only [List.mem_cons, List.not_mem_nil, or_false] at hp; rcases hp with rfl | rfl | rfl <;> first | exact sp7_ok | exact sp25_ok | exact sp26_ok)) gamX_det rfl Tryd.func9 (c := codeOf Tryd.f9) rfl Tryd.ntmps9 (rs := [.cell 2 23, .tmp 3]) Tryd.results9 (by unfold enters; rw [Tryd.func9]; kernel_rfl) (Nat.le_of_ble_eq_true (by kernel_rfl)) (X := X) (c0 := 0) (Eq.mp (F9_eq g K X) h))
end Go.Proofs.YtofjpelbjehddaaDoor
