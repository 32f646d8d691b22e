/- What functions come to: printed by exf.py. -/
import Derived.Test.YtpbkhdeehlikfaaDoorCE
namespace Go.Proofs.YtpbkhdeehlikfaaDoor
set_option linter.unusedVariables false
set_option linter.unusedSimpArgs false
set_option linter.unusedSectionVars false
open Go.RowKit
attribute [local irreducible] dfun dround
/-- (*quilt/csexp.reader).next -/
def H42 : List (Nat × Hint) := []
def J42 : List (Nat × Hint) := []
abbrev S42 : List Sh := [.pt 0 0]
abbrev L42 : List Lf := [.str, .int .i64, .int .i64]
abbrev O42 : List ObSh := [.cells [.leaf, .leaf, .leaf]]
def F42 (g : prodL L42) (K X : Kn) : Prop :=
  bif decide (g.2.1 = (g.1.size : Int)) then (
    X (.ic 47 (.ag [.int .i64 11])) [some (.cells [.str g.1, .int .i64 g.2.1, .int .i64 g.2.2.1])])
  else (
    StrAt g.1 g.2.1 fun b1 =>
  K (.int .u8 b1) [some (.cells [.str g.1, .int .i64 g.2.1, .int .i64 g.2.2.1])])
theorem F42_eq (g : prodL L42) (K X : Kn) : F42 g K X = dfun D (gamX [] []) (isRaw []) H42 J42 24 [.tmp 2] (codeOf Tryd.f42) (argsT S42 L42 g) (storeT S42 O42 L42 g) (settleD (storeT S42 O42 L42 g).length 0 K) (settleD (storeT S42 O42 L42 g).length 0 X) 0 := by kernel_rfl
theorem F42_ok (g : prodL L42) (K X : Kn) (h : F42 g K X) : FCalls Tryd.prog 42 (argsT S42 L42 g) (storeT S42 O42 L42 g) K X 0 :=
  FCalls.settleX (FCalls.settleD (dfun_sound (Γ := gamX [] []) (mu := isRaw []) (H := H42) (J := J42) D_ok (gamX_ok (rs := []) (l := []) (fun p hp => by cases hp) (fun p hp => by cases hp)) gamX_det rfl Tryd.func42 (c := codeOf Tryd.f42) rfl Tryd.ntmps42 (rs := [.tmp 2]) Tryd.results42 (by unfold enters; rw [Tryd.func42]; kernel_rfl) (Nat.le_of_ble_eq_true (by kernel_rfl)) (X := (settleD (storeT S42 O42 L42 g).length 0 X)) (c0 := 0) (Eq.mp (F42_eq g K X) h)))
/-- (quilt/quiltref01.reader).atom -/
def H44 : List (Nat × Hint) := [(2, ⟨[((1, []), none), ((3, []), none)], [(1, .pt 0 0), (3, .pt 1 0), (4, .leaf), (5, .leaf)], [.cells [.leaf, .leaf, .leaf, .leaf], .cells [.leaf, .leaf, .leaf, .leaf]], [.int .i64, .int .i64, .str, .int .i64, .int .i64, .int .i64, .str, .int .i64, .int .i64, .int .i64]⟩)]
def J44 : List (Nat × Hint) := [(6, ⟨[((1, []), none), ((3, []), none)], [(1, .pt 0 0), (3, .pt 1 0), (4, .leaf), (5, .leaf), (60, .leaf)], [.cells [.leaf, .leaf, .leaf, .leaf], .cells [.leaf, .leaf, .leaf, .leaf]], [.int .i64, .int .i64, .bool, .str, .int .i64, .int .i64, .int .i64, .str, .int .i64, .int .i64, .int .i64]⟩), (8, ⟨[((1, []), none), ((3, []), none)], [(1, .pt 0 0), (3, .pt 1 0), (4, .leaf), (5, .leaf)], [.cells [.leaf, .leaf, .leaf, .leaf], .cells [.leaf, .leaf, .leaf, .leaf]], [.int .i64, .int .i64, .str, .int .i64, .int .i64, .int .i64, .str, .int .i64, .int .i64, .int .i64]⟩), (12, ⟨[((1, []), none), ((3, []), none)], [(1, .pt 0 0), (3, .pt 1 0), (4, .leaf), (82, .leaf)], [.cells [.leaf, .leaf, .leaf, .leaf], .cells [.leaf, .leaf, .leaf, .leaf]], [.int .i64, .bool, .str, .int .i64, .int .i64, .int .i64, .str, .int .i64, .int .i64, .int .i64]⟩)]
abbrev S44 : List Sh := [.ag [.leaf, .leaf, .leaf, .leaf]]
abbrev L44 : List Lf := [.str, .int .i64, .int .i64, .int .i64]
abbrev O44 : List ObSh := []
def F44_J12 (K : Kn) (n_11 : Int) (t_11 : Bool) (r1_11 : ByteArray) (r2_11 : Int) (r3_11 : Int) (r4_11 : Int) (t1_11 : ByteArray) (t2_11 : Int) (t3_11 : Int) (t4_11 : Int) : Prop :=
  bif t_11 then (
    K (.tu [.str (⟨#[]⟩ : ByteArray), .ag [.str r1_11, .int .i64 r2_11, .int .i64 r3_11, .int .i64 12]]) [])
  else (
    bif decide (IntKind.i64.wrap ((r1_11.size : Int) - (IntKind.i64.wrap (r2_11 + 1))) < n_11) then (
    K (.tu [.str (⟨#[]⟩ : ByteArray), .ag [.str r1_11, .int .i64 (IntKind.i64.wrap (r2_11 + 1)), .int .i64 r3_11, .int .i64 11]]) [])
  else (
    (0 : Int) ≤ IntKind.i64.wrap (r2_11 + 1) ∧ IntKind.i64.wrap (r2_11 + 1) ≤ IntKind.i64.wrap ((IntKind.i64.wrap (r2_11 + 1)) + n_11) ∧ IntKind.i64.wrap ((IntKind.i64.wrap (r2_11 + 1)) + n_11) ≤ (r1_11.size : Int) ∧
  K (.tu [.str (r1_11.extract (IntKind.i64.wrap (r2_11 + 1)).toNat (IntKind.i64.wrap ((IntKind.i64.wrap (r2_11 + 1)) + n_11)).toNat), .ag [.str r1_11, .int .i64 (IntKind.i64.wrap ((IntKind.i64.wrap (r2_11 + 1)) + n_11)), .int .i64 r3_11, .int .i64 r4_11]]) []))
def F44_J13 (K : Kn) (n_9 : Int) (begin_9 : Int) (r1_9 : ByteArray) (r2_9 : Int) (r3_9 : Int) (r4_9 : Int) (t1_9 : ByteArray) (t2_9 : Int) (t3_9 : Int) (t4_9 : Int) : Prop :=
  bif decide (r2_9 = (r1_9.size : Int)) then (
    K (.tu [.str (⟨#[]⟩ : ByteArray), .ag [.str r1_9, .int .i64 r2_9, .int .i64 r3_9, .int .i64 11]]) [])
  else (
    bif decide (r2_9 = begin_9) then (
    F44_J12 K n_9 true r1_9 r2_9 r3_9 r4_9 t1_9 t2_9 t3_9 t4_9)
  else (
    StrAt r1_9 r2_9 fun b10 =>
    F44_J12 K n_9 (!decide (b10 = 58)) r1_9 r2_9 r3_9 r4_9 t1_9 t2_9 t3_9 t4_9))
def F44_J8 (K : Kn) (W2 : prodL [.int .i64, .int .i64, .str, .int .i64, .int .i64, .int .i64, .str, .int .i64, .int .i64, .int .i64] → Prop) (n_7 : Int) (begin_7 : Int) (t_7 : Bool) (r1_7 : ByteArray) (r2_7 : Int) (r3_7 : Int) (r4_7 : Int) (t1_7 : ByteArray) (t2_7 : Int) (t3_7 : Int) (t4_7 : Int) : Prop :=
  bif t_7 then (
    K (.tu [.str (⟨#[]⟩ : ByteArray), .ag [.str r1_7, .int .i64 r2_7, .int .i64 r3_7, .int .i64 12]]) [])
  else (
    W2 (n_7, begin_7, r1_7, r2_7, r3_7, r4_7, t1_7, t2_7, t3_7, t4_7, ()))
def F44_B2 (K : Kn) (W2 : prodL [.int .i64, .int .i64, .str, .int .i64, .int .i64, .int .i64, .str, .int .i64, .int .i64, .int .i64] → Prop) (n_1 : Int) (begin_1 : Int) (r1_1 : ByteArray) (r2_1 : Int) (r3_1 : Int) (r4_1 : Int) (t1_1 : ByteArray) (t2_1 : Int) (t3_1 : Int) (t4_1 : Int) : Prop :=
  bif decide (r2_1 < (r1_1.size : Int)) then (
    StrAt r1_1 r2_1 fun b3 =>
    bif decide (48 ≤ b3) then (
      StrAt r1_1 r2_1 fun b4 =>
      bif decide (b4 ≤ 57) then (
    StrAt r1_1 r2_1 fun b5 =>
  bif decide (65536 < IntKind.i64.wrap ((IntKind.i64.wrap (n_1 * 10)) + (IntKind.i64.wrap (IntKind.u8.wrap (b5 - 48))))) then (
    F44_J8 K W2 (IntKind.i64.wrap ((IntKind.i64.wrap (n_1 * 10)) + (IntKind.i64.wrap (IntKind.u8.wrap (b5 - 48))))) begin_1 true r1_1 (IntKind.i64.wrap (r2_1 + 1)) r3_1 r4_1 t1_1 t2_1 t3_1 t4_1)
  else (
    bif decide (1 < IntKind.i64.wrap ((IntKind.i64.wrap (r2_1 + 1)) - begin_1)) then (
      StrAt r1_1 begin_1 fun b6 =>
      F44_J8 K W2 (IntKind.i64.wrap ((IntKind.i64.wrap (n_1 * 10)) + (IntKind.i64.wrap (IntKind.u8.wrap (b5 - 48))))) begin_1 (decide (b6 = 48)) r1_1 (IntKind.i64.wrap (r2_1 + 1)) r3_1 r4_1 t1_1 t2_1 t3_1 t4_1)
    else (
      F44_J8 K W2 (IntKind.i64.wrap ((IntKind.i64.wrap (n_1 * 10)) + (IntKind.i64.wrap (IntKind.u8.wrap (b5 - 48))))) begin_1 false r1_1 (IntKind.i64.wrap (r2_1 + 1)) r3_1 r4_1 t1_1 t2_1 t3_1 t4_1)))
  else (
    F44_J13 K n_1 begin_1 r1_1 r2_1 r3_1 r4_1 t1_1 t2_1 t3_1 t4_1))
    else (
      F44_J13 K n_1 begin_1 r1_1 r2_1 r3_1 r4_1 t1_1 t2_1 t3_1 t4_1))
  else (
    F44_J13 K n_1 begin_1 r1_1 r2_1 r3_1 r4_1 t1_1 t2_1 t3_1 t4_1)
def F44_L2 (K : Kn) (g : prodL [.int .i64, .int .i64, .str, .int .i64, .int .i64, .int .i64, .str, .int .i64, .int .i64, .int .i64]) : Prop :=
  LoopW (γ := prodL [.int .i64, .int .i64, .str, .int .i64, .int .i64, .int .i64, .str, .int .i64, .int .i64, .int .i64]) (fun V y => F44_B2 K V y.1 y.2.1 y.2.2.1 y.2.2.2.1 y.2.2.2.2.1 y.2.2.2.2.2.1 y.2.2.2.2.2.2.1 y.2.2.2.2.2.2.2.1 y.2.2.2.2.2.2.2.2.1 y.2.2.2.2.2.2.2.2.2.1) g
def F44 (g : prodL L44) (K : Kn) : Prop :=
  F44_L2 K (0, g.2.1, g.1, g.2.1, g.2.2.1, g.2.2.2.1, (⟨#[]⟩ : ByteArray), 0, 0, 0, ())
theorem F44_eq (g : prodL L44) (K X : Kn) : F44 g K = dfun D (gamX [] []) (isRaw []) H44 J44 115 [.tmp 2, .cell 3 54] (codeOf Tryd.f44) (argsT S44 L44 g) (storeT S44 O44 L44 g) (settle0 K) X 0 := by kernel_rfl
theorem F44_ok (g : prodL L44) (K X : Kn) (h : F44 g K) : FCalls Tryd.prog 44 (argsT S44 L44 g) (storeT S44 O44 L44 g) K X 0 :=
  FCalls.settle0 (dfun_sound (Γ := gamX [] []) (mu := isRaw []) (H := H44) (J := J44) D_ok (gamX_ok (rs := []) (l := []) (fun p hp => by cases hp) (fun p hp => by cases hp)) gamX_det rfl Tryd.func44 (c := codeOf Tryd.f44) rfl Tryd.ntmps44 (rs := [.tmp 2, .cell 3 54]) Tryd.results44 (by unfold enters; rw [Tryd.func44]; kernel_rfl) (Nat.le_of_ble_eq_true (by kernel_rfl)) (X := X) (c0 := 0) (Eq.mp (F44_eq g K X) h))
end Go.Proofs.YtpbkhdeehlikfaaDoor
