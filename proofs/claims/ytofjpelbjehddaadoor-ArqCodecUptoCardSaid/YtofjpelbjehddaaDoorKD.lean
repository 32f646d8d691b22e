/- What functions come to: printed by exf.py. -/
import Derived.Test.YtofjpelbjehddaaDoorK3
namespace Go.Proofs.YtofjpelbjehddaaDoor
set_option linter.unusedVariables false
set_option linter.unusedSimpArgs false
set_option linter.unusedSectionVars false
open Go.RowKit
attribute [local irreducible] dfun dround
/-- quilt/quiltlaw49.ArqCodec -/
def H3 : List (Nat × Hint) := []
def J3 : List (Nat × Hint) := [(2, ⟨[((2, []), none)], [(1, .leaf), (2, .pt 0 0), (21, .leaf)], [.cells [.leaf, .leaf, .leaf]], [.str, .bool, .bool, .int .i64, .str]⟩)]
abbrev S3 : List Sh := [.ag [.leaf, .leaf, .leaf], .leaf]
abbrev L3 : List Lf := [.bool, .int .i64, .str, .str]
def F3_J2 (K : Kn) (s_1 : ByteArray) (t_1 : Bool) (f1_1 : Bool) (f2_1 : Int) (f3_1 : ByteArray) : Prop :=
  bif t_1 then (
    sp5.pre (()) ∧
    K (.bool true) [])
  else (
    sp6.pre (f1_1, f2_1, f3_1, ()) ∧
  sp7.pre (f1_1, f2_1, f3_1, ()) ∧
  sp8.pre (s_1, ()) ∧
  sp9.pre (s_1, ()) ∧
  bif decide ((kEnc ⟨f1_1, f2_1, f3_1⟩).1 = (kEnc ⟨f1_1, f2_1, f3_1⟩).1) then (
    bif decide ((kEnc ⟨f1_1, f2_1, f3_1⟩).2 = (kEnc ⟨f1_1, f2_1, f3_1⟩).2) then (
      bif decide ((kDec s_1).1.ack = (kDec s_1).1.ack) && (decide ((kDec s_1).1.number = (kDec s_1).1.number) && (decide ((kDec s_1).1.data = (kDec s_1).1.data) && (true))) then (
        bif decide ((kDec s_1).2 = (kDec s_1).2) then (
          sp5.pre (()) ∧
          K (.bool true) [])
        else (
          K (.bool false) []))
      else (
        K (.bool false) []))
    else (
      K (.bool false) []))
  else (
    K (.bool false) []))
def F3 (g : prodL L3) (K : Kn) : Prop :=
  bif decide (1000 < (g.2.2.1.size : Int)) then (
    F3_J2 K g.2.2.2.1 true g.1 g.2.1 g.2.2.1)
  else (
    F3_J2 K g.2.2.2.1 (decide (300 < (g.2.2.2.1.size : Int))) g.1 g.2.1 g.2.2.1)
theorem F3_eq (g : prodL L3) (K X : Kn) : F3 g K = dfun D (gamX [] [(5, true, sp5), (6, true, sp6), (7, true, sp7), (8, true, sp8), (9, true, sp9)]) (isRaw []) H3 J3 64 [.tmp 4] (codeOf Tryd.f3) (argsT S3 L3 g) [] (settle0 K) X := by kernel_rfl
theorem F3_ok (g : prodL L3) (K X : Kn) (h : F3 g K) : FCalls Tryd.prog 3 (argsT S3 L3 g) [] K X :=
  FCalls.settle0 (dfun_sound (Γ := gamX [] [(5, true, sp5), (6, true, sp6), (7, true, sp7), (8, true, sp8), (9, true, sp9)]) (mu := isRaw []) (H := H3) (J := J3) D_ok (gamX_ok (rs := []) (l := [(5, true, sp5), (6, true, sp6), (7, true, sp7), (8, true, sp8), (9, true, sp9)]) (fun p hp => by cases hp) (by intro p hp; simp only [List.mem_cons, List.not_mem_nil, or_false] at hp; rcases hp with rfl | rfl | rfl | rfl | rfl <;> first | exact sp5_ok | exact sp6_ok | exact sp7_ok | exact sp8_ok | exact sp9_ok)) gamX_det rfl Tryd.func3 (c := codeOf Tryd.f3) rfl Tryd.ntmps3 (rs := [.tmp 4]) Tryd.results3 (by unfold enters; rw [Tryd.func3]; kernel_rfl) (Nat.le_of_ble_eq_true (by kernel_rfl)) (X := X) (c0 := 0) (Eq.mp (F3_eq g K X) h))
/-- quilt/quiltlaw49.ArqEncoding -/
def H4 : List (Nat × Hint) := [(6, ⟨[((3, []), none), ((7, []), none)], [(1, .leaf), (3, .pt 0 0), (7, .oa .u8 1), (30, .leaf), (31, .leaf)], [.cells [.leaf, .leaf, .leaf], .arr .u8], [.str, .int .i64, .int .i64, .bool, .int .i64, .str, .sl .u8]⟩)]
def J4 : List (Nat × Hint) := [(2, ⟨[((3, []), none)], [(1, .leaf), (2, .leaf), (3, .pt 0 0), (25, .leaf)], [.cells [.leaf, .leaf, .leaf]], [.str, .bool, .bool, .bool, .int .i64, .str]⟩), (11, ⟨[((3, []), none)], [(1, .leaf), (3, .pt 0 0)], [.cells [.leaf, .leaf, .leaf]], [.str, .bool, .int .i64, .str]⟩), (15, ⟨[], [(1, .leaf), (67, .leaf)], [], [.str, .bool]⟩), (16, ⟨[], [(1, .leaf)], [], [.str]⟩)]
abbrev S4 : List Sh := [.ag [.leaf, .leaf, .leaf], .leaf, .leaf]
abbrev L4 : List Lf := [.bool, .int .i64, .str, .str, .bool]
def F4_J11 (K : Kn) (s_10 : ByteArray) : Prop :=
  sp8.pre (s_10, ()) ∧
  bif !decide ((kDec s_10).2 = 0) then (
    bif decide ((kDec s_10).2 = 12) then (
      bif decide ((kDec s_10).1.ack = false) && (decide ((kDec s_10).1.number = 0) && (decide ((kDec s_10).1.data = (⟨#[]⟩ : ByteArray)) && (true))) then (
        sp5.pre (()) ∧
        K (.bool true) [])
      else (
        K (.bool false) []))
    else (
      K (.bool false) []))
  else (
    sp6.pre ((kDec s_10).1.ack, (kDec s_10).1.number, (kDec s_10).1.data, ()) ∧
  bif decide ((kEnc ((kDec s_10).1)).2 = 0) then (
    bif decide ((kEnc ((kDec s_10).1)).1 = s_10) then (
      sp5.pre (()) ∧
      K (.bool true) [])
    else (
      K (.bool false) []))
  else (
    K (.bool false) []))
def F4_J9 (K : Kn) (s_8 : ByteArray) (t_8 : Bool) : Prop :=
  bif t_8 then (
      K (.bool false) [])
    else (
      F4_J11 K s_8)
def F4_J12 (K : Kn) (s_7 : ByteArray) (f1_7 : Bool) (f2_7 : Int) (f3_7 : ByteArray) : Prop :=
  sp6.pre (f1_7, f2_7, f3_7, ()) ∧
  bif decide ((kEnc ⟨f1_7, f2_7, f3_7⟩).2 = 0) then (
    sp8.pre ((kEnc ⟨f1_7, f2_7, f3_7⟩).1, ()) ∧
    bif !decide ((kDec ((kEnc ⟨f1_7, f2_7, f3_7⟩).1)).2 = 0) then (
      F4_J9 K s_7 true)
    else (
      bif !(decide ((kDec ((kEnc ⟨f1_7, f2_7, f3_7⟩).1)).1.ack = f1_7) && (decide ((kDec ((kEnc ⟨f1_7, f2_7, f3_7⟩).1)).1.number = f2_7) && (decide ((kDec ((kEnc ⟨f1_7, f2_7, f3_7⟩).1)).1.data = f3_7) && (true)))) then (
        F4_J9 K s_7 true)
      else (
        F4_J9 K s_7 (decide (65536 < (((kEnc ⟨f1_7, f2_7, f3_7⟩).1).size : Int))))))
  else (
    F4_J11 K s_7)
def F4_B5 (K : Kn) (W5 : prodL [.str, .int .i64, .int .i64, .bool, .int .i64, .str, .sl .u8] → Prop) (s_4 : ByteArray) (t_4 : Int) (t2_4 : Int) (f1_4 : Bool) (f2_4 : Int) (f3_4 : ByteArray) (b_4 : List Int) : Prop :=
  bif decide (t2_4 < t_4) then (
      0 ≤ t2_4 ∧ t2_4.toNat < b_4.length ∧
    atI b_4 t2_4.toNat fun x6 =>
    W5 (s_4, t_4, IntKind.i64.wrap (t2_4 + 1), f1_4, f2_4, f3_4, b_4.set t2_4.toNat (IntKind.u8.wrap f2_4), ()))
    else (
      F4_J12 K s_4 f1_4 f2_4 (bStr b_4))
def F4_L5 (K : Kn) (g : prodL [.str, .int .i64, .int .i64, .bool, .int .i64, .str, .sl .u8]) : Prop :=
  LoopW (γ := prodL [.str, .int .i64, .int .i64, .bool, .int .i64, .str, .sl .u8]) (fun V y => F4_B5 K V y.1 y.2.1 y.2.2.1 y.2.2.2.1 y.2.2.2.2.1 y.2.2.2.2.2.1 y.2.2.2.2.2.2.1) g
def F4_J2 (K : Kn) (s_1 : ByteArray) (long_1 : Bool) (t_1 : Bool) (f1_1 : Bool) (f2_1 : Int) (f3_1 : ByteArray) : Prop :=
  bif t_1 then (
    sp5.pre (()) ∧
    K (.bool true) [])
  else (
    bif long_1 then (
    Need ((0 : Int) ≤ 65472 ∧ 65472 = (65472 : Int)) (Room (65472 : Int).toNat 1 (∀ z3 : List Int, z3 = List.replicate (65472 : Int).toNat (0 : Int) →
    F4_L5 K (s_1, (z3.length : Int), 0, f1_1, f2_1, f3_1, z3, ()))))
  else (
    F4_J12 K s_1 f1_1 f2_1 f3_1))
def F4 (g : prodL L4) (K : Kn) : Prop :=
  bif decide (1000 < (g.2.2.1.size : Int)) then (
    F4_J2 K g.2.2.2.1 g.2.2.2.2.1 true g.1 g.2.1 g.2.2.1)
  else (
    F4_J2 K g.2.2.2.1 g.2.2.2.2.1 (decide (300 < (g.2.2.2.1.size : Int))) g.1 g.2.1 g.2.2.1)
theorem F4_eq (g : prodL L4) (K X : Kn) : F4 g K = dfun D (gamX [] [(5, true, sp5), (6, true, sp6), (8, true, sp8)]) (isRaw []) H4 J4 100 [.tmp 6] (codeOf Tryd.f4) (argsT S4 L4 g) [] (settle0 K) X := by kernel_rfl
theorem F4_ok (g : prodL L4) (K X : Kn) (h : F4 g K) : FCalls Tryd.prog 4 (argsT S4 L4 g) [] K X :=
  FCalls.settle0 (dfun_sound (Γ := gamX [] [(5, true, sp5), (6, true, sp6), (8, true, sp8)]) (mu := isRaw []) (H := H4) (J := J4) D_ok (gamX_ok (rs := []) (l := [(5, true, sp5), (6, true, sp6), (8, true, sp8)]) (fun p hp => by cases hp) (by intro p hp; simp only [List.mem_cons, List.not_mem_nil, or_false] at hp; rcases hp with rfl | rfl | rfl <;> first | exact sp5_ok | exact sp6_ok | exact sp8_ok)) gamX_det rfl Tryd.func4 (c := codeOf Tryd.f4) rfl Tryd.ntmps4 (rs := [.tmp 6]) Tryd.results4 (by unfold enters; rw [Tryd.func4]; kernel_rfl) (Nat.le_of_ble_eq_true (by kernel_rfl)) (X := X) (c0 := 0) (Eq.mp (F4_eq g K X) h))
end Go.Proofs.YtofjpelbjehddaaDoor
