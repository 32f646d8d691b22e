import Derived.Shelf.Strconv.Itoa3
import Derived.Shelf.Strconv.AtoiAll
import Derived.Ground.NamesProg
import Derived.RecoverIn
import Derived.WalkKit
import Derived.Lib.AtoiAllCases
import Derived.Shelf.Strings.Builder1
import Derived.Test.YtoclmkbjgmgekaaGreatDoorV4
set_option linter.unusedVariables false
set_option linter.unusedSimpArgs false
set_option linter.unusedSectionVars false
namespace Go.Proofs.YtoclmkbjgmgekaaGreatDoor
open Go.RowKit
attribute [local irreducible] dfun dround
def H76 : List (Nat × Hint) := []
def J76 : List (Nat × Hint) := []
abbrev S76 : List Sh := [.pt 0 0]
abbrev L76 : List Lf := [.str, .int .i64, .int .i64]
abbrev O76 : List ObSh := [.cells [.leaf, .leaf, .leaf]]
def F76 (g : prodL L76) (K X : Kn) : Prop :=
 bif decide (g.2.1 = (g.1.size : Int)) then (
  X (.ic 93 (.ag [.int .i64 11])) [some (.cells [.str g.1, .int .i64 g.2.1, .int .i64 g.2.2.1])])
 else (
  StrAt g.1 g.2.1 fun b1 =>
 K (.int .u8 b1) [some (.cells [.str g.1, .int .i64 g.2.1, .int .i64 g.2.2.1])])
theorem F76_eq (g : prodL L76) (K X : Kn) : F76 g K X = dfun D (gamX [] []) (isRaw []) H76 J76 24 [.tmp 2] (codeOf Tryz.f76) (argsT S76 L76 g) (storeT S76 O76 L76 g) (settleD (storeT S76 O76 L76 g).length 0 K) (settleD (storeT S76 O76 L76 g).length 0 X) 0 := by kernel_rfl
theorem F76_ok (g : prodL L76) (K X : Kn) (h : F76 g K X) : FCalls Tryz.prog 76 (argsT S76 L76 g) (storeT S76 O76 L76 g) K X 0 :=
 FCalls.settleX (FCalls.settleD (dfun_sound (Γ := gamX [] []) (mu := isRaw []) (H := H76) (J := J76) D_ok (gmX gm0) gamX_det rfl Tryz.func76 (c := codeOf Tryz.f76) rfl Tryz.ntmps76 (rs := [.tmp 2]) Tryz.results76 (by unfold enters; rw [Tryz.func76]; kernel_rfl) (Nat.le_of_ble_eq_true (by kernel_rfl)) (X := (settleD (storeT S76 O76 L76 g).length 0 X)) (c0 := 0) (Eq.mp (F76_eq g K X) h)))
def H80 : List (Nat × Hint) := [(2, ⟨[((1, []), none), ((3, []), none)], [(1, .pt 0 0), (3, .pt 1 0), (4, .leaf), (5, .leaf)], [.cells [.leaf, .leaf, .leaf, .leaf], .cells [.leaf, .leaf, .leaf, .leaf]], [.int .i64, .int .i64, .str, .int .i64, .int .i64, .int .i64, .str, .int .i64, .int .i64, .int .i64]⟩)]
def J80 : List (Nat × Hint) := [(6, ⟨[((1, []), none), ((3, []), none)], [(1, .pt 0 0), (3, .pt 1 0), (4, .leaf), (5, .leaf), (60, .leaf)], [.cells [.leaf, .leaf, .leaf, .leaf], .cells [.leaf, .leaf, .leaf, .leaf]], [.int .i64, .int .i64, .bool, .str, .int .i64, .int .i64, .int .i64, .str, .int .i64, .int .i64, .int .i64]⟩), (8, ⟨[((1, []), none), ((3, []), none)], [(1, .pt 0 0), (3, .pt 1 0), (4, .leaf), (5, .leaf)], [.cells [.leaf, .leaf, .leaf, .leaf], .cells [.leaf, .leaf, .leaf, .leaf]], [.int .i64, .int .i64, .str, .int .i64, .int .i64, .int .i64, .str, .int .i64, .int .i64, .int .i64]⟩), (12, ⟨[((1, []), none), ((3, []), none)], [(1, .pt 0 0), (3, .pt 1 0), (4, .leaf), (82, .leaf)], [.cells [.leaf, .leaf, .leaf, .leaf], .cells [.leaf, .leaf, .leaf, .leaf]], [.int .i64, .bool, .str, .int .i64, .int .i64, .int .i64, .str, .int .i64, .int .i64, .int .i64]⟩)]
abbrev S80 : List Sh := [.ag [.leaf, .leaf, .leaf, .leaf]]
abbrev L80 : List Lf := [.str, .int .i64, .int .i64, .int .i64]
abbrev O80 : List ObSh := []
def F80_J12 (K : Kn) (n_11 : Int) (t_11 : Bool) (r1_11 : ByteArray) (r2_11 r3_11 r4_11 : Int) (t1_11 : ByteArray) (t2_11 t3_11 t4_11 : Int) : Prop :=
 bif t_11 then (
  K (.tu [.str (⟨#[]⟩ : ByteArray), .ag [.str r1_11, .int .i64 r2_11, .int .i64 r3_11, .int .i64 12]]) [])
 else (
  bif decide (IntKind.i64.wrap ((r1_11.size : Int) - (IntKind.i64.wrap (r2_11 + 1))) < n_11) then (
  K (.tu [.str (⟨#[]⟩ : ByteArray), .ag [.str r1_11, .int .i64 (IntKind.i64.wrap (r2_11 + 1)), .int .i64 r3_11, .int .i64 11]]) [])
 else (
  (0 : Int) <= IntKind.i64.wrap (r2_11 + 1) /\ IntKind.i64.wrap (r2_11 + 1) <= IntKind.i64.wrap ((IntKind.i64.wrap (r2_11 + 1)) + n_11) /\ IntKind.i64.wrap ((IntKind.i64.wrap (r2_11 + 1)) + n_11) <= (r1_11.size : Int) /\
 K (.tu [.str (r1_11.extract (IntKind.i64.wrap (r2_11 + 1)).toNat (IntKind.i64.wrap ((IntKind.i64.wrap (r2_11 + 1)) + n_11)).toNat), .ag [.str r1_11, .int .i64 (IntKind.i64.wrap ((IntKind.i64.wrap (r2_11 + 1)) + n_11)), .int .i64 r3_11, .int .i64 r4_11]]) []))
def F80_J13 (K : Kn) (n_9 begin_9 : Int) (r1_9 : ByteArray) (r2_9 r3_9 r4_9 : Int) (t1_9 : ByteArray) (t2_9 t3_9 t4_9 : Int) : Prop :=
 bif decide (r2_9 = (r1_9.size : Int)) then (
  K (.tu [.str (⟨#[]⟩ : ByteArray), .ag [.str r1_9, .int .i64 r2_9, .int .i64 r3_9, .int .i64 11]]) [])
 else (
  bif decide (r2_9 = begin_9) then (
  F80_J12 K n_9 true r1_9 r2_9 r3_9 r4_9 t1_9 t2_9 t3_9 t4_9)
 else (
  StrAt r1_9 r2_9 fun b10 =>
  F80_J12 K n_9 (!decide (b10 = 58)) r1_9 r2_9 r3_9 r4_9 t1_9 t2_9 t3_9 t4_9))
def F80_J8 (K : Kn) (W2 : prodL [.int .i64, .int .i64, .str, .int .i64, .int .i64, .int .i64, .str, .int .i64, .int .i64, .int .i64] -> Prop) (n_7 begin_7 : Int) (t_7 : Bool) (r1_7 : ByteArray) (r2_7 r3_7 r4_7 : Int) (t1_7 : ByteArray) (t2_7 t3_7 t4_7 : Int) : Prop :=
 bif t_7 then (
  K (.tu [.str (⟨#[]⟩ : ByteArray), .ag [.str r1_7, .int .i64 r2_7, .int .i64 r3_7, .int .i64 12]]) [])
 else (
  W2 (n_7, begin_7, r1_7, r2_7, r3_7, r4_7, t1_7, t2_7, t3_7, t4_7, ()))
def F80_B2 (K : Kn) (W2 : prodL [.int .i64, .int .i64, .str, .int .i64, .int .i64, .int .i64, .str, .int .i64, .int .i64, .int .i64] -> Prop) (n_1 begin_1 : Int) (r1_1 : ByteArray) (r2_1 r3_1 r4_1 : Int) (t1_1 : ByteArray) (t2_1 t3_1 t4_1 : Int) : Prop :=
 bif decide (r2_1 < (r1_1.size : Int)) then (
  StrAt r1_1 r2_1 fun b3 =>
  bif decide (48 <= b3) then (
   StrAt r1_1 r2_1 fun b4 =>
   bif decide (b4 <= 57) then (
  StrAt r1_1 r2_1 fun b5 =>
 bif decide (65536 < IntKind.i64.wrap ((IntKind.i64.wrap (n_1 * 10)) + (IntKind.i64.wrap (IntKind.u8.wrap (b5 - 48))))) then (
  F80_J8 K W2 (IntKind.i64.wrap ((IntKind.i64.wrap (n_1 * 10)) + (IntKind.i64.wrap (IntKind.u8.wrap (b5 - 48))))) begin_1 true r1_1 (IntKind.i64.wrap (r2_1 + 1)) r3_1 r4_1 t1_1 t2_1 t3_1 t4_1)
 else (
  bif decide (1 < IntKind.i64.wrap ((IntKind.i64.wrap (r2_1 + 1)) - begin_1)) then (
   StrAt r1_1 begin_1 fun b6 =>
   F80_J8 K W2 (IntKind.i64.wrap ((IntKind.i64.wrap (n_1 * 10)) + (IntKind.i64.wrap (IntKind.u8.wrap (b5 - 48))))) begin_1 (decide (b6 = 48)) r1_1 (IntKind.i64.wrap (r2_1 + 1)) r3_1 r4_1 t1_1 t2_1 t3_1 t4_1)
  else (
   F80_J8 K W2 (IntKind.i64.wrap ((IntKind.i64.wrap (n_1 * 10)) + (IntKind.i64.wrap (IntKind.u8.wrap (b5 - 48))))) begin_1 false r1_1 (IntKind.i64.wrap (r2_1 + 1)) r3_1 r4_1 t1_1 t2_1 t3_1 t4_1)))
 else (
  F80_J13 K n_1 begin_1 r1_1 r2_1 r3_1 r4_1 t1_1 t2_1 t3_1 t4_1))
  else (
   F80_J13 K n_1 begin_1 r1_1 r2_1 r3_1 r4_1 t1_1 t2_1 t3_1 t4_1))
 else (
  F80_J13 K n_1 begin_1 r1_1 r2_1 r3_1 r4_1 t1_1 t2_1 t3_1 t4_1)
def F80_L2 (K : Kn) (g : prodL [.int .i64, .int .i64, .str, .int .i64, .int .i64, .int .i64, .str, .int .i64, .int .i64, .int .i64]) : Prop :=
 LoopW (γ := prodL [.int .i64, .int .i64, .str, .int .i64, .int .i64, .int .i64, .str, .int .i64, .int .i64, .int .i64]) (fun V y => F80_B2 K V y.1 y.2.1 y.2.2.1 y.2.2.2.1 y.2.2.2.2.1 y.2.2.2.2.2.1 y.2.2.2.2.2.2.1 y.2.2.2.2.2.2.2.1 y.2.2.2.2.2.2.2.2.1 y.2.2.2.2.2.2.2.2.2.1) g
def F80 (g : prodL L80) (K : Kn) : Prop :=
 F80_L2 K (0, g.2.1, g.1, g.2.1, g.2.2.1, g.2.2.2.1, (⟨#[]⟩ : ByteArray), 0, 0, 0, ())
theorem F80_eq (g : prodL L80) (K X : Kn) : F80 g K = dfun D (gamX [] []) (isRaw []) H80 J80 115 [.tmp 2, .cell 3 103] (codeOf Tryz.f80) (argsT S80 L80 g) (storeT S80 O80 L80 g) (settle0 K) X 0 := by kernel_rfl
theorem F80_ok (g : prodL L80) (K X : Kn) (h : F80 g K) : FCalls Tryz.prog 80 (argsT S80 L80 g) (storeT S80 O80 L80 g) K X 0 :=
 FCalls.settle0 (dfun_sound D_ok (gmX gm0) gamX_det rfl Tryz.func80 (c := codeOf Tryz.f80) rfl Tryz.ntmps80 Tryz.results80 (by unfold enters; rw [Tryz.func80]; kernel_rfl) (Nat.le_of_ble_eq_true (by kernel_rfl)) (c0 := 0) (Eq.mp (F80_eq g K X) h))
end Go.Proofs.YtoclmkbjgmgekaaGreatDoor
namespace Go.Proofs.YtoclmkbjgmgekaaGreatDoor
open Go.RowKit
attribute [local irreducible] dfun dround
def H124 : List (Nat × Hint) := []
def J124 : List (Nat × Hint) := []
abbrev S124 : List Sh := [.leaf, .leaf]
abbrev L124 : List Lf := [.str, .str]
abbrev O124 : List ObSh := []
def F124 (g : prodL L124) (K : Kn) : Prop :=
 bif decide ((g.2.1.size : Int) <= (g.1.size : Int)) then (
  (0 : Int) <= 0 /\ 0 <= (g.2.1.size : Int) /\ (g.2.1.size : Int) <= (g.1.size : Int) /\
  K (.bool (decide (g.1.extract (0 : Int).toNat (g.2.1.size : Int).toNat = g.2.1))) [])
 else (
  K (.bool false) [])
theorem F124_eq (g : prodL L124) (K X : Kn) : F124 g K = dfun D (gamX [] []) (isRaw []) H124 J124 18 [.tmp 4] (codeOf Tryz.f124) (argsT S124 L124 g) (storeT S124 O124 L124 g) (settle0 K) X 0 := by kernel_rfl
theorem F124_ok (g : prodL L124) (K X : Kn) (h : F124 g K) : FCalls Tryz.prog 124 (argsT S124 L124 g) (storeT S124 O124 L124 g) K X 0 :=
 FCalls.settle0 (dfun_sound D_ok (gmX gm0) gamX_det rfl Tryz.func124 (c := codeOf Tryz.f124) rfl Tryz.ntmps124 Tryz.results124 (by unfold enters; rw [Tryz.func124]; kernel_rfl) (Nat.le_of_ble_eq_true (by kernel_rfl)) (c0 := 0) (Eq.mp (F124_eq g K X) h))
def rw124 : Raw := ⟨S124, O124, L124, 0, fun g K _ => F124 g K⟩
theorem rw124_ok : rw124.Ok Tryz.prog 124 := fun g K X h => F124_ok g K X h
def H111 : List (Nat × Hint) := []
def J111 : List (Nat × Hint) := [(2, ⟨[], [(0, .leaf), (1, .leaf), (7, .leaf)], [], [.str, .str, .bool]⟩)]
abbrev S111 : List Sh := [.leaf, .leaf]
abbrev L111 : List Lf := [.str, .str]
abbrev O111 : List ObSh := []
def F111_J3 (K : Kn) (s_2 prefix_2 : ByteArray) (t_2 : Bool) : Prop :=
 bif t_2 then (
  (0 : Int) <= (prefix_2.size : Int) /\ (prefix_2.size : Int) <= (s_2.size : Int) /\ (s_2.size : Int) <= (s_2.size : Int) /\
  K (.str (s_2.extract (prefix_2.size : Int).toNat (s_2.size : Int).toNat)) [])
 else (
  K (.str s_2) [])
def F111 (g : prodL L111) (K : Kn) : Prop :=
 let g1 : prodL [.str, .str] := (g.1, g.2.1, ());
 bif decide ((g1.2.1.size : Int) <= (g1.1.size : Int)) then (
  (0 : Int) <= 0 /\ 0 <= (g1.2.1.size : Int) /\ (g1.2.1.size : Int) <= (g1.1.size : Int) /\
  F111_J3 K g.1 g.2.1 (decide (g1.1.extract (0 : Int).toNat (g1.2.1.size : Int).toNat = g1.2.1)))
 else (
  F111_J3 K g.1 g.2.1 false)
theorem F111_eq (g : prodL L111) (K X : Kn) : F111 g K = dfun D (gamX [(124, rw124)] []) (isRaw [(124, rw124)]) H111 J111 13 [.tmp 4] (codeOf Tryz.f111) (argsT S111 L111 g) (storeT S111 O111 L111 g) (settle0 K) X 0 := by kernel_rfl
theorem F111_ok (g : prodL L111) (K X : Kn) (h : F111 g K) : FCalls Tryz.prog 111 (argsT S111 L111 g) (storeT S111 O111 L111 g) K X 0 :=
 FCalls.settle0 (dfun_sound (Γ := gamX [(124, rw124)] []) (mu := isRaw [(124, rw124)]) (H := H111) (J := J111) D_ok (gamX_ok (rs := [(124, rw124)]) (l := []) (by intro p hp; simp only [List.mem_cons, List.not_mem_nil, or_false] at hp; subst hp; exact rw124_ok) (fun p hp => by cases hp)) gamX_det rfl Tryz.func111 (c := codeOf Tryz.f111) rfl Tryz.ntmps111 Tryz.results111 (by unfold enters; rw [Tryz.func111]; kernel_rfl) (Nat.le_of_ble_eq_true (by kernel_rfl)) (c0 := 0) (Eq.mp (F111_eq g K X) h))
def rw111 : Raw := ⟨S111, O111, L111, 0, fun g K _ => F111 g K⟩
theorem rw111_ok : rw111.Ok Tryz.prog 111 := fun g K X h => F111_ok g K X h
def H99 : List (Nat × Hint) := []
def J99 : List (Nat × Hint) := []
abbrev S99 : List Sh := [.leaf, .leaf]
abbrev L99 : List Lf := [.str, .str]
abbrev O99 : List ObSh := []
def F99_J4 (K : Kn) (s_3 prefix_3 : ByteArray) (t_3 : Bool) : Prop :=
 bif t_3 then (
  (0 : Int) <= (prefix_3.size : Int) /\ (prefix_3.size : Int) <= (s_3.size : Int) /\ (s_3.size : Int) <= (s_3.size : Int) /\
  K (.str (s_3.extract (prefix_3.size : Int).toNat (s_3.size : Int).toNat)) [])
 else (
  K (.str s_3) [])
def F99 (g : prodL L99) (K : Kn) : Prop :=
 let g1 : prodL [.str, .str] := (g.1, g.2.1, ());
 let g2 : prodL [.str, .str] := (g1.1, g1.2.1, ());
 bif decide ((g2.2.1.size : Int) <= (g2.1.size : Int)) then (
  (0 : Int) <= 0 /\ 0 <= (g2.2.1.size : Int) /\ (g2.2.1.size : Int) <= (g2.1.size : Int) /\
  F99_J4 K g1.1 g1.2.1 (decide (g2.1.extract (0 : Int).toNat (g2.2.1.size : Int).toNat = g2.2.1)))
 else (
  F99_J4 K g1.1 g1.2.1 false)
theorem F99_eq (g : prodL L99) (K X : Kn) : F99 g K = dfun D (gamX [(111, rw111)] []) (isRaw [(111, rw111)]) H99 J99 8 [.tmp 4] (codeOf Tryz.f99) (argsT S99 L99 g) (storeT S99 O99 L99 g) (settle0 K) X 0 := by kernel_rfl
theorem F99_ok (g : prodL L99) (K X : Kn) (h : F99 g K) : FCalls Tryz.prog 99 (argsT S99 L99 g) (storeT S99 O99 L99 g) K X 0 :=
 FCalls.settle0 (dfun_sound (Γ := gamX [(111, rw111)] []) (mu := isRaw [(111, rw111)]) (H := H99) (J := J99) D_ok (gamX_ok (rs := [(111, rw111)]) (l := []) (by intro p hp; simp only [List.mem_cons, List.not_mem_nil, or_false] at hp; subst hp; exact rw111_ok) (fun p hp => by cases hp)) gamX_det rfl Tryz.func99 (c := codeOf Tryz.f99) rfl Tryz.ntmps99 Tryz.results99 (by unfold enters; rw [Tryz.func99]; kernel_rfl) (Nat.le_of_ble_eq_true (by kernel_rfl)) (c0 := 0) (Eq.mp (F99_eq g K X) h))
def rw99 : Raw := ⟨S99, O99, L99, 0, fun g K _ => F99 g K⟩
theorem rw99_ok : rw99.Ok Tryz.prog 99 := fun g K X h => F99_ok g K X h
def H59 : List (Nat × Hint) := [(4, ⟨[], [(0, .leaf), (3, .leaf)], [], [.str, .int .i64]⟩)]
def J59 : List (Nat × Hint) := [(2, ⟨[], [(0, .leaf), (11, .leaf)], [], [.str, .bool]⟩), (7, ⟨[], [(0, .leaf), (3, .leaf), (39, .leaf)], [], [.str, .int .i64, .bool]⟩)]
abbrev S59 : List Sh := [.leaf]
abbrev L59 : List Lf := [.str]
def spz59 (Z : prodL L59 -> Prop) : Sp := ⟨S59, L59, Z, fun g => .bool (decR (bl g.1)), fun _ => none⟩
def F59_J10 (K : Kn) (W6 : prodL [.str, .int .i64] -> Prop) (s_9 : ByteArray) (i_9 : Int) (t_9 : Bool) : Prop :=
 bif t_9 then (
  K (.bool false) [])
 else (
  W6 (s_9, IntKind.i64.wrap (i_9 + 1), ()))
def F59_B6 (K : Kn) (W6 : prodL [.str, .int .i64] -> Prop) (s_5 : ByteArray) (i_5 : Int) : Prop :=
 bif decide (i_5 < (s_5.size : Int)) then (
  StrAt s_5 i_5 fun b7 =>
 bif decide (b7 < 48) then (
  F59_J10 K W6 s_5 i_5 true)
 else (
  StrAt s_5 i_5 fun b8 =>
  F59_J10 K W6 s_5 i_5 (decide (57 < b8))))
 else (
  bif decide ((s_5.size : Int) = 1) then (
  K (.bool true) [])
 else (
  bif decide (1 < (s_5.size : Int)) then (
   StrAt s_5 0 fun b11 =>
   K (.bool (!decide (b11 = 48))) [])
  else (
   K (.bool false) [])))
def F59_L6 (K : Kn) (g : prodL [.str, .int .i64]) : Prop :=
 LoopW (γ := prodL [.str, .int .i64]) (fun V y => F59_B6 K V y.1 y.2.1) g
def F59_J4 (K : Kn) (Z : prodL L59 -> Prop) (s_2 : ByteArray) (t_2 : Bool) : Prop :=
 bif t_2 then (
  bif !decide (s_2 = (⟨#[45, 48]⟩ : ByteArray)) then (
   (0 : Int) <= 1 /\ 1 <= (s_2.size : Int) /\ (s_2.size : Int) <= (s_2.size : Int) /\
   Z (s_2.extract (1 : Int).toNat (s_2.size : Int).toNat, ()) /\
   bif decR (bl (s_2.extract (1 : Int).toNat (s_2.size : Int).toNat)) then (
    StrAt s_2 1 fun b3 =>
    K (.bool (!decide (b3 = 45))) [])
   else (
    K (.bool false) []))
  else (
   K (.bool false) []))
 else (
  F59_L6 K (s_2, 0, ()))
def F59 (Z : prodL L59 -> Prop) (g : prodL L59) (K : Kn) : Prop :=
 bif decide (1 < (g.1.size : Int)) then (
  StrAt g.1 0 fun b1 =>
  F59_J4 K Z g.1 (decide (b1 = 45)))
 else (
  F59_J4 K Z g.1 false)
theorem F59_eq (Z : prodL L59 -> Prop) (g : prodL L59) (K X : Kn) : F59 Z g K = dfun D (gamX [] [(59, true, spz59 Z)]) (isRaw []) H59 J59 53 [.tmp 2] (codeOf Tryz.f59) (argsT S59 L59 g) [] (settle0 K) X := by kernel_rfl
theorem F59_ok (Z : prodL L59 -> Prop) (hZ : (spz59 Z).Ok Tryz.prog 59 true) (g : prodL L59) (K X : Kn) (h : F59 Z g K) : FCalls Tryz.prog 59 (argsT S59 L59 g) [] K X :=
 FCalls.settle0 (dfun_sound (Γ := gamX [] [(59, true, spz59 Z)]) (mu := isRaw []) (H := H59) (J := J59) D_ok (gamX_ok (rs := []) (l := [(59, true, spz59 Z)]) (fun p hp => by cases hp) (by intro p hp; simp only [List.mem_cons, List.not_mem_nil, or_false] at hp; subst hp; exact hZ)) gamX_det rfl Tryz.func59 (c := codeOf Tryz.f59) rfl Tryz.ntmps59 Tryz.results59 (by unfold enters; rw [Tryz.func59]; kernel_rfl) (Nat.le_of_ble_eq_true (by kernel_rfl)) (c0 := 0) (Eq.mp (F59_eq Z g K X) h))
def H78 : List (Nat × Hint) := [(3, ⟨[], [(0, .leaf), (3, .leaf), (8, .leaf), (9, .leaf)], [], [.str, .str, .int .i64, .int .i64]⟩)]
def J78 : List (Nat × Hint) := [(2, ⟨[], [(0, .leaf), (3, .leaf)], [], [.str, .str]⟩), (6, ⟨[], [(0, .leaf), (3, .leaf), (8, .leaf), (9, .leaf), (21, .leaf)], [], [.str, .str, .int .i64, .int .i64, .bool]⟩)]
abbrev S78 : List Sh := [.leaf]
abbrev L78 : List Lf := [.str]
def F78_J12 (K : Kn) (W8 : prodL [.str, .str, .int .i64, .int .i64] -> Prop) (s_11 digits_11 : ByteArray) (t_11 t2_11 : Int) (t3_11 : Bool) : Prop :=
 bif t3_11 then (
  K (.bool false) [])
 else (
  W8 (s_11, digits_11, t_11, IntKind.i64.wrap (t2_11 + 1), ()))
def F78_B8 (K : Kn) (W8 : prodL [.str, .str, .int .i64, .int .i64] -> Prop) (s_7 digits_7 : ByteArray) (t_7 t2_7 : Int) : Prop :=
 bif decide (t2_7 < t_7) then (
  StrAt digits_7 t2_7 fun b9 =>
 bif decide (b9 < 48) then (
  F78_J12 K W8 s_7 digits_7 t_7 t2_7 true)
 else (
  StrAt digits_7 t2_7 fun b10 =>
  F78_J12 K W8 s_7 digits_7 t_7 t2_7 (decide (57 < b10))))
 else (
  bif !decide (digits_7 = (⟨#[]⟩ : ByteArray)) then (
  StrAt digits_7 0 fun b13 =>
  bif !decide (b13 = 48) then (
   K (.bool true) [])
  else (
   K (.bool (decide (s_7 = (⟨#[48]⟩ : ByteArray)))) []))
 else (
  K (.bool false) []))
def F78_L8 (K : Kn) (g : prodL [.str, .str, .int .i64, .int .i64]) : Prop :=
 LoopW (γ := prodL [.str, .str, .int .i64, .int .i64]) (fun V y => F78_B8 K V y.1 y.2.1 y.2.2.1 y.2.2.2.1) g
def F78_J14 (K : Kn) (s_6 digits_6 : ByteArray) : Prop :=
 F78_L8 K (s_6, digits_6, (digits_6.size : Int), 0, ())
def F78_J5 (K : Kn) (g : prodL L78) (s_4 prefix_4 : ByteArray) (t_4 : Bool) : Prop :=
 bif t_4 then (
  (0 : Int) <= (prefix_4.size : Int) /\ (prefix_4.size : Int) <= (s_4.size : Int) /\ (s_4.size : Int) <= (s_4.size : Int) /\
  F78_J14 K g.1 (s_4.extract (prefix_4.size : Int).toNat (s_4.size : Int).toNat))
 else (
  F78_J14 K g.1 s_4)
def F78 (g : prodL L78) (K : Kn) : Prop :=
 let g1 : prodL [.str, .str] := (g.1, (⟨#[45]⟩ : ByteArray), ());
 let g2 : prodL [.str, .str] := (g1.1, g1.2.1, ());
 let g3 : prodL [.str, .str] := (g2.1, g2.2.1, ());
 bif decide ((g3.2.1.size : Int) <= (g3.1.size : Int)) then (
  (0 : Int) <= 0 /\ 0 <= (g3.2.1.size : Int) /\ (g3.2.1.size : Int) <= (g3.1.size : Int) /\
  F78_J5 K g g2.1 g2.2.1 (decide (g3.1.extract (0 : Int).toNat (g3.2.1.size : Int).toNat = g3.2.1)))
 else (
  F78_J5 K g g2.1 g2.2.1 false)
theorem F78_eq (g : prodL L78) (K X : Kn) : F78 g K = dfun D (gamX [(99, rw99)] []) (isRaw [(99, rw99)]) H78 J78 34 [.tmp 2] (codeOf Tryz.f78) (argsT S78 L78 g) [] (settle0 K) X := by kernel_rfl
theorem F78_ok (g : prodL L78) (K X : Kn) (h : F78 g K) : FCalls Tryz.prog 78 (argsT S78 L78 g) [] K X :=
 FCalls.settle0 (dfun_sound (Γ := gamX [(99, rw99)] []) (mu := isRaw [(99, rw99)]) (H := H78) (J := J78) D_ok (gamX_ok (rs := [(99, rw99)]) (l := []) (by intro p hp; simp only [List.mem_cons, List.not_mem_nil, or_false] at hp; subst hp; exact rw99_ok) (fun p hp => by cases hp)) gamX_det rfl Tryz.func78 (c := codeOf Tryz.f78) rfl Tryz.ntmps78 Tryz.results78 (by unfold enters; rw [Tryz.func78]; kernel_rfl) (Nat.le_of_ble_eq_true (by kernel_rfl)) (c0 := 0) (Eq.mp (F78_eq g K X) h))
end Go.Proofs.YtoclmkbjgmgekaaGreatDoor
namespace Go.Proofs.YtoclmkbjgmgekaaGreatDoor
open Go.RowKit
theorem bl_len (s : ByteArray) : (bl s).length = s.size := by unfold bl; simp
theorem bl_get (s : ByteArray) (n : Nat) : s[n]? = (bl s)[n]? := by
 unfold bl
 by_cases h : n < s.size
 . rw [getElem?_pos s n h, List.getElem?_eq_getElem (by simpa using h)]
   simp [ByteArray.getElem_eq_getElem_data]
 . rw [getElem?_neg s n h, List.getElem?_eq_none (by simpa using Nat.le_of_not_lt h)]
theorem bl_extract (s : ByteArray) (a b : Nat) : bl (s.extract a b) = ((bl s).take b).drop a := by
 unfold bl
 rw [ByteArray.data_extract, Array.toList_extract, List.extract_eq_take_drop, List.drop_take]
theorem bl_inj {s t : ByteArray} (h : bl s = bl t) : s = t := by
 obtain ⟨s⟩ := s
 obtain ⟨t⟩ := t
 unfold bl at h
 simp only at h
 rw [Array.toList_inj.1 h]
theorem bl_mk (l : List UInt8) : bl ⟨l.toArray⟩ = l := by simp [bl]
theorem mk_bl (s : ByteArray) : (⟨(bl s).toArray⟩ : ByteArray) = s := by simp [bl]
theorem StrAt_of {s : ByteArray} {n : Nat} {c : UInt8} {r : List UInt8} {K : Int -> Prop} (h : (bl s).drop n = c :: r) (hK : K (c.toNat : Int)) : StrAt s (n : Int) K := by
 refine ⟨by omega, c, ?_, hK⟩
 rw [Int.toNat_natCast, bl_get]
 have := congrArg (·[0]?) h
 simpa using this
theorem drop_next {α : Type} {l r : List α} {n : Nat} {c : α} (h : l.drop n = c :: r) : l.drop (n + 1) = r /\ n < l.length /\ r.length + n + 1 = l.length := by
 have h1 := congrArg List.length h
 simp only [List.length_drop, List.length_cons] at h1
 refine ⟨?_, by omega, by omega⟩
 rw [<- List.drop_drop, h]; rfl
theorem digit_val {c : UInt8} (h1 : 48 <= c.toNat) (h2 : c.toNat <= 57) : IntKind.i64.wrap (IntKind.u8.wrap ((c.toNat : Int) - 48)) = ((c.toNat - 48 : Nat) : Int) := by
 have : IntKind.u8.wrap ((c.toNat : Int) - 48) = (c.toNat : Int) - 48 := by simp [IntKind.wrap, IntKind.bits, IntKind.signed]; omega
 rw [this, wrap64 (by omega) (by omega)]; omega
def rw76 : Raw := ⟨S76, O76, L76, 0, fun g K X => nextPre g /\ nextF g K X⟩
theorem rw76_ok : rw76.Ok Tryz.prog 76 := by
 rintro ⟨s, p, n, ⟨⟩⟩ K X ⟨⟨h1, h2, h3⟩, h⟩
 refine F76_ok _ K X ?_
 obtain ⟨q, rfl⟩ := Int.eq_ofNat_of_zero_le h1
 unfold nextF at h
 unfold F76
 dsimp only [Lf.ty, prodL] at h2 h ⊢
 rw [Int.toNat_natCast] at h
 rw [bif_dec]
 have hl := bl_len s
 cases hd : (bl s).drop q with
 | nil =>
  have := List.drop_eq_nil_iff.1 hd
  rw [hd] at h
  rw [if_pos (by omega)]
  exact h
 | cons c r =>
  obtain ⟨_, d2, _⟩ := drop_next hd
  rw [hd] at h
  rw [if_neg (by omega)]
  exact StrAt_of hd h
theorem F80_end {n b p : Nat} {s : ByteArray} {t1 : ByteArray} {t2 t3 t4 left : Int} {K : Kn} (hp : p <= s.size) (hs : s.size <= 2147483648) (hn : n <= 65536) (hnd : ∀ c r, (bl s).drop p = c :: r -> ¬ (48 <= c.toNat /\ c.toNat <= 57))
  (hc : b = p -> n = 0) (h : Res.go (atomG (decide (b = p)) n ((bl s).drop p))
   (fun a : List UInt8 × List UInt8 => K (.tu [.str (⟨a.1.toArray⟩ : ByteArray), .ag [.str s, .int .i64 ((s.size : Int) - (a.2.length : Int)), .int .i64 left, .int .i64 0]]) []) (fun e => ∀ p : Int, K (.tu [.str (⟨#[]⟩ : ByteArray), .ag [.str s, .int .i64 p, .int .i64 left, .int .i64 e]]) [])) :
  F80_J13 K (n : Int) (b : Int) s (p : Int) left 0 t1 t2 t3 t4 := by
 have hl := bl_len s
 unfold F80_J13
 rw [bif_dec]
 cases hd : (bl s).drop p with
 | nil =>
  have := List.drop_eq_nil_iff.1 hd
  rw [hd] at h
  rw [if_pos (by omega)]
  exact h _
 | cons c r =>
  obtain ⟨d1, d2, d3⟩ := drop_next hd
  rw [hd] at h
  rw [if_neg (by omega), bif_dec]
  have hnd := hnd c r hd
  simp only [atomG, numR] at h
  have w1 : IntKind.i64.wrap ((p : Int) + 1) = ((p + 1 : Nat) : Int) := by rw [wrap64 (by omega) (by omega)]; omega
  by_cases hb : b = p
  . subst hb
    rw [if_pos rfl]
    rw [if_neg (by simp)] at h
    by_cases h58 : c.toNat < 48
    . rw [if_pos (.inl h58)] at h
      exact h _
    . rw [if_pos (.inr (.inl (by omega)))] at h
      exact h _
  . rw [if_neg (by omega)]
    refine StrAt_of hd ?_
    rw [decide_eq_false hb] at h
    unfold F80_J12
    by_cases h58 : c.toNat = 58
    . rw [if_pos ⟨h58, rfl⟩] at h
      rw [show (!decide ((c.toNat : Int) = 58)) = false by simp; omega, cond_false, bif_dec, w1, wrap64 (by omega) (by omega), wrap64 (by omega) (by omega)]
      simp only at h
      by_cases h1 : r.length < n
      . rw [if_pos h1] at h
        rw [if_pos (by omega)]
        exact h _
      . rw [if_neg h1] at h
        rw [if_neg (by omega)]
        refine ⟨by omega, by omega, by omega, ?_⟩
        have e1 : s.extract ((p + 1 : Nat) : Int).toNat (((p + 1 : Nat) : Int) + (n : Int)).toNat = ⟨(r.take n).toArray⟩ := by
         apply bl_inj
         rw [show bl ⟨(r.take n).toArray⟩ = r.take n from bl_mk _, bl_extract, Int.toNat_natCast, show (((p + 1 : Nat) : Int) + (n : Int)).toNat = p + 1 + n by omega, List.drop_take, d1, show p + 1 + n - (p + 1) = n by omega]
        have e2 : ((p + 1 : Nat) : Int) + (n : Int) = (s.size : Int) - ((r.drop n).length : Int) := by rw [List.length_drop]; omega
        rw [e1, e2]
        exact h
    . rw [if_neg (by simp [h58]), if_pos (by omega)] at h
      rw [show (!decide ((c.toNat : Int) = 58)) = true by simp; omega, cond_true]
      exact h _
theorem F80_is {p : Nat} {s : ByteArray} {left : Int} {K X : Kn} (hp : p <= s.size) (hs : s.size <= 2147483648) (h : atomF (s, (p : Int), left, 0, ()) K X) : F80 (s, (p : Int), left, 0, ()) K := by
 unfold atomF atomR at h
 dsimp only [Lf.ty, prodL] at h
 rw [Int.toNat_natCast] at h
 have hl := bl_len s
 unfold F80 F80_L2
 dsimp only [Lf.ty, prodL]
 let M (first : Bool) (n q : Nat) : Prop := Res.go (atomG first n ((bl s).drop q))
   (fun a : List UInt8 × List UInt8 => K (.tu [.str (⟨a.1.toArray⟩ : ByteArray), .ag [.str s, .int .i64 ((s.size : Int) - (a.2.length : Int)), .int .i64 left, .int .i64 0]]) []) (fun e => ∀ p : Int, K (.tu [.str (⟨#[]⟩ : ByteArray), .ag [.str s, .int .i64 p, .int .i64 left, .int .i64 e]]) [])
 refine LoopW.of (fun g => ∃ (n q : Nat), g = ((n : Int), (p : Int), s, (q : Int), left, 0, (⟨#[]⟩ : ByteArray), 0, 0, 0, ()) /\ p <= q /\ q <= s.size /\ n <= 65536 /\ (p = q -> n = 0) /\ (∀ c r, p < q -> (bl s).drop p = c :: r -> (q = p + 1 -> n = c.toNat - 48) /\ (p + 1 < q -> n ≠ 0 /\ c.toNat ≠ 48) /\ 48 <= c.toNat) /\ M (decide (p = q)) n q) (fun g => (s.size - g.2.2.2.1.toNat)) ?_ ⟨0, p, rfl, Nat.le_refl _, hp, by omega, fun _ => rfl, fun _ _ h => absurd h (Nat.lt_irrefl _), by simpa [M] using h⟩
 rintro g ⟨n, q, rfl, i1, i2, i3, i4, i5, i6⟩ W hW
 have hend : (∀ c r, (bl s).drop q = c :: r -> ¬ (48 <= c.toNat /\ c.toNat <= 57)) -> F80_J13 K (n : Int) (p : Int) s (q : Int) left 0 (⟨#[]⟩ : ByteArray) 0 0 0 := fun hn => F80_end i2 hs i3 hn i4 i6
 unfold F80_B2
 dsimp only
 rw [bif_dec]
 cases hd : (bl s).drop q with
 | nil =>
  have := List.drop_eq_nil_iff.1 hd
  rw [if_neg (by omega)]
  exact hend fun c r h => by rw [hd] at h; cases h
 | cons c r =>
  obtain ⟨d1, d2, d3⟩ := drop_next hd
  rw [if_pos (by omega)]
  refine StrAt_of hd ?_
  rw [bif_dec]
  by_cases h1 : 48 <= c.toNat
  case neg =>
   rw [if_neg (by omega)]
   exact hend fun c' r' h => by rw [hd] at h; injection h with h _; subst h; omega
  rw [if_pos (by omega)]
  refine StrAt_of hd ?_
  rw [bif_dec]
  by_cases h2 : c.toNat <= 57
  case neg =>
   rw [if_neg (by omega)]
   exact hend fun c' r' h => by rw [hd] at h; injection h with h _; subst h; omega
  rw [if_pos (by omega)]
  refine StrAt_of hd ?_
  have hval : IntKind.i64.wrap ((IntKind.i64.wrap ((n : Int) * 10)) + (IntKind.i64.wrap (IntKind.u8.wrap ((c.toNat : Int) - 48)))) = ((10 * n + (c.toNat - 48) : Nat) : Int) := by
   rw [digit_val h1 h2, wrap64 (n := (n : Int) * 10) (by omega) (by omega), wrap64 (by omega) (by omega)]; omega
  have w1 : IntKind.i64.wrap ((q : Int) + 1) = ((q + 1 : Nat) : Int) := by rw [wrap64 (by omega) (by omega)]; omega
  rw [hval, w1, bif_dec]
  have hM : M (decide (p = q)) n q := i6
  simp only [M, hd, atomG, numR] at hM
  rw [if_neg (by omega)] at hM
  by_cases hz : decide (p = q) = false /\ n = 0
  . -- a zero ahead of a digit
    rw [if_pos (.inr (.inr hz))] at hM
    have hpq : p < q := by have := of_decide_eq_false hz.1; omega
    obtain ⟨c0, r0, hd0⟩ : ∃ c0 r0, (bl s).drop p = c0 :: r0 := by
     cases h0 : (bl s).drop p with
     | nil => have := List.drop_eq_nil_iff.1 h0; omega
     | cons c0 r0 => exact ⟨c0, r0, rfl⟩
    obtain ⟨j1, j2, j3⟩ := i5 c0 r0 hpq hd0
    rw [if_neg (by omega), bif_dec, wrap64 (by omega) (by omega), if_pos (by omega)]
    refine StrAt_of hd0 ?_
    have : c0.toNat = 48 := by
     by_cases e : q = p + 1
     . have := j1 e; omega
     . exact absurd hz.2 (j2 (by omega)).1
    unfold F80_J8
    rw [show decide ((c0.toNat : Int) = 48) = true by simp; omega, cond_true]
    exact hM _
  rw [if_neg (by simp only [not_or]; exact ⟨by omega, by omega, hz⟩)] at hM
  by_cases h3 : 65536 < 10 * n + (c.toNat - 48)
  . rw [if_pos h3] at hM
    rw [if_pos (by omega)]
    exact hM _
  rw [if_neg h3] at hM
  rw [if_neg (by omega), bif_dec, wrap64 (by omega) (by omega)]
  have hnext : W (((10 * n + (c.toNat - 48) : Nat) : Int), (p : Int), s, ((q + 1 : Nat) : Int), left, 0, (⟨#[]⟩ : ByteArray), 0, 0, 0, ()) := by
   refine hW _ ⟨_, q + 1, rfl, by omega, by omega, by omega, by omega, fun c0 r0 hlt h0 => ?_, ?_⟩ ?_
   . by_cases e : p = q
     . subst e
       rw [hd] at h0
       injection h0 with h0 _
       subst h0
       have := i4 rfl
       exact ⟨fun _ => by omega, fun h => by omega, h1⟩
     . obtain ⟨j1, j2, j3⟩ := i5 c0 r0 (by omega) h0
       have hn0 : n ≠ 0 := fun h => hz ⟨decide_eq_false e, h⟩
       refine ⟨fun h => by omega, fun _ => ⟨by omega, ?_⟩, j3⟩
       by_cases e2 : q = p + 1
       . have := j1 e2; omega
       . exact (j2 (by omega)).2
   . rw [decide_eq_false (show ¬ p = q + 1 by omega)]
     simp only [M, d1, atomG]
     exact hM
   . dsimp only
     rw [Int.toNat_natCast, Int.toNat_natCast]; omega
  by_cases h4 : p = q
  . rw [if_neg (by omega)]
    unfold F80_J8
    exact hnext
  . rw [if_pos (by omega)]
    obtain ⟨c0, r0, hd0⟩ : ∃ c0 r0, (bl s).drop p = c0 :: r0 := by
     cases h0 : (bl s).drop p with
     | nil => have := List.drop_eq_nil_iff.1 h0; omega
     | cons c0 r0 => exact ⟨c0, r0, rfl⟩
    obtain ⟨j1, j2, j3⟩ := i5 c0 r0 (by omega) hd0
    refine StrAt_of hd0 ?_
    have hn0 : n ≠ 0 := fun h => hz ⟨decide_eq_false h4, h⟩
    have : c0.toNat ≠ 48 := by
     by_cases e : q = p + 1
     . have := j1 e; omega
     . exact (j2 (by omega)).2
    unfold F80_J8
    rw [show decide ((c0.toNat : Int) = 48) = false by simp; omega, cond_false]
    exact hnext
def rw80 : Raw := ⟨S80, O80, L80, 0, fun g K X => atomPre g /\ atomF g K X⟩
theorem rw80_ok : rw80.Ok Tryz.prog 80 := by
 rintro ⟨s, p, n, e, ⟨⟩⟩ K X ⟨⟨⟨h1, h2, h3⟩, h4⟩, h⟩
 have h4 : e = 0 := h4
 subst h4
 obtain ⟨q, rfl⟩ := Int.eq_ofNat_of_zero_le h1
 rw [lim_eq] at h3
 exact F80_ok _ K X (F80_is (X := X) (Int.ofNat_le.1 h2) (by dsimp only [Lf.ty] at *; omega) h)
end Go.Proofs.YtoclmkbjgmgekaaGreatDoor
namespace Go.Proofs.YtoclmkbjgmgekaaGreatDoor
open Go.RowKit
attribute [local irreducible] dfun dround
def H77 : List (Nat × Hint) := [(4, ⟨[], [(0, .pt 0 0), (3, .leaf), (4, .leaf)], [.cells [.leaf, .leaf, .leaf]], [.int .i64, .bool, .str, .int .i64, .int .i64]⟩)]
def J77 : List (Nat × Hint) := [(6, ⟨[], [(0, .pt 0 0), (3, .leaf), (4, .leaf), (5, .leaf), (13, .leaf)], [.cells [.leaf, .leaf, .leaf]], [.int .i64, .bool, .int .u8, .bool, .str, .int .i64, .int .i64]⟩), (9, ⟨[], [(0, .pt 0 0), (3, .leaf), (5, .leaf), (35, .leaf)], [.cells [.leaf, .leaf, .leaf]], [.int .i64, .int .u8, .bool, .str, .int .i64, .int .i64]⟩)]
abbrev S77 : List Sh := [.pt 0 0]
abbrev L77 : List Lf := [.str, .int .i64, .int .i64]
abbrev O77 : List ObSh := [.cells [.leaf, .leaf, .leaf]]
def F77_J8 (K X : Kn) (W2 : prodL [.int .i64, .bool, .str, .int .i64, .int .i64] -> Prop) (n_7 c_7 : Int) (t_7 : Bool) (o01_7 : ByteArray) (o02_7 o03_7 : Int) : Prop :=
 bif t_7 then (
  X (.ic 93 (.ag [.int .i64 12])) [some (.cells [.str o01_7, .int .i64 o02_7, .int .i64 o03_7])])
 else (
  bif decide (65536 < IntKind.i64.wrap ((IntKind.i64.wrap (10 * n_7)) + (IntKind.i64.wrap (IntKind.u8.wrap (c_7 - 48))))) then (
  X (.ic 93 (.ag [.int .i64 12])) [some (.cells [.str o01_7, .int .i64 o02_7, .int .i64 o03_7])])
 else (
  W2 (IntKind.i64.wrap ((IntKind.i64.wrap (10 * n_7)) + (IntKind.i64.wrap (IntKind.u8.wrap (c_7 - 48)))), false, o01_7, IntKind.i64.wrap (o02_7 + 1), o03_7, ())))
def F77_J6 (K X : Kn) (W2 : prodL [.int .i64, .bool, .str, .int .i64, .int .i64] -> Prop) (n_5 : Int) (first_5 : Bool) (c_5 : Int) (t_5 : Bool) (o01_5 : ByteArray) (o02_5 o03_5 : Int) : Prop :=
 bif t_5 then (
  K (.int .i64 n_5) [some (.cells [.str o01_5, .int .i64 (IntKind.i64.wrap (o02_5 + 1)), .int .i64 o03_5])])
 else (
  bif decide (c_5 < 48) then (
  F77_J8 K X W2 n_5 c_5 true o01_5 o02_5 o03_5)
 else (
  bif decide (57 < c_5) then (
   F77_J8 K X W2 n_5 c_5 true o01_5 o02_5 o03_5)
  else (
   bif !first_5 then (
    F77_J8 K X W2 n_5 c_5 (decide (n_5 = 0)) o01_5 o02_5 o03_5)
   else (
    F77_J8 K X W2 n_5 c_5 false o01_5 o02_5 o03_5))))
def F77_B2 (K X : Kn) (W2 : prodL [.int .i64, .bool, .str, .int .i64, .int .i64] -> Prop) (n_1 : Int) (first_1 : Bool) (o01_1 : ByteArray) (o02_1 o03_1 : Int) : Prop :=
 nextPre (o01_1, o02_1, o03_1, ()) /\
 Res.go (headR ((bl o01_1).drop o02_1.toNat)) (fun a3 =>
 bif decide ((a3.toNat : Int) = 58) then (
  F77_J6 K X W2 n_1 first_1 (a3.toNat : Int) (!first_1) o01_1 o02_1 o03_1)
 else (
  F77_J6 K X W2 n_1 first_1 (a3.toNat : Int) false o01_1 o02_1 o03_1)) (fun e4 =>
 X (.ic 93 (.ag [.int .i64 e4])) [some (.cells [.str o01_1, .int .i64 o02_1, .int .i64 o03_1])])
def F77_L2 (K X : Kn) (g : prodL [.int .i64, .bool, .str, .int .i64, .int .i64]) : Prop :=
 LoopW (γ := prodL [.int .i64, .bool, .str, .int .i64, .int .i64]) (fun V y => F77_B2 K X V y.1 y.2.1 y.2.2.1 y.2.2.2.1 y.2.2.2.2.1) g
def F77 (g : prodL L77) (K X : Kn) : Prop :=
 F77_L2 K X (0, true, g.1, g.2.1, g.2.2.1, ())
theorem F77_eq (g : prodL L77) (K X : Kn) : F77 g K X = dfun D (gamX [(76, rw76)] []) (isRaw [(76, rw76)]) H77 J77 55 [.tmp 2] (codeOf Tryz.f77) (argsT S77 L77 g) (storeT S77 O77 L77 g) (settleD (storeT S77 O77 L77 g).length 0 K) (settleD (storeT S77 O77 L77 g).length 0 X) 0 := by kernel_rfl
theorem F77_ok (g : prodL L77) (K X : Kn) (h : F77 g K X) : FCalls Tryz.prog 77 (argsT S77 L77 g) (storeT S77 O77 L77 g) K X 0 :=
 FCalls.settleX (FCalls.settleD (dfun_sound (Γ := gamX [(76, rw76)] []) (mu := isRaw [(76, rw76)]) (H := H77) (J := J77) D_ok (gamX_ok (rs := [(76, rw76)]) (l := []) (by intro p hp; simp only [List.mem_cons, List.not_mem_nil, or_false] at hp; subst hp; exact rw76_ok) (fun p hp => by cases hp)) gamX_det rfl Tryz.func77 (c := codeOf Tryz.f77) rfl Tryz.ntmps77 (rs := [.tmp 2]) Tryz.results77 (by unfold enters; rw [Tryz.func77]; kernel_rfl) (Nat.le_of_ble_eq_true (by kernel_rfl)) (X := (settleD (storeT S77 O77 L77 g).length 0 X)) (c0 := 0) (Eq.mp (F77_eq g K X) h)))
end Go.Proofs.YtoclmkbjgmgekaaGreatDoor
namespace Go.Proofs.YtoclmkbjgmgekaaGreatDoor
open Go.RowKit
theorem F77_is {p : Nat} {s : ByteArray} {k : Int} {K X : Kn} (hp : p <= s.size) (hs : s.size <= 2147483648) (h : numF (s, (p : Int), k, ()) K X) : F77 (s, (p : Int), k, ()) K X := by
 unfold numF at h
 dsimp only [Lf.ty, prodL] at h
 rw [Int.toNat_natCast] at h
 have hl := bl_len s
 unfold F77 F77_L2
 dsimp only [Lf.ty, prodL]
 refine LoopW.of (fun g => ∃ (first : Bool) (n q : Nat), g = ((n : Int), first, s, (q : Int), k, ()) /\ q <= s.size /\ n <= 65536 /\ Res.go (numR first n ((bl s).drop q)) (fun a => K (.int .i64 (a.1 : Int)) [some (.cells [.str s, .int .i64 ((s.size : Int) - (a.2.length : Int)), .int .i64 k])]) (fun e => ∀ p : Int, X (.ic 93 (.ag [.int .i64 e])) [some (.cells [.str s, .int .i64 p, .int .i64 k])]))
  (fun g => s.size - g.2.2.2.1.toNat) ?_ ⟨true, 0, p, rfl, hp, by omega, h⟩
 rintro g ⟨first, n, q, rfl, i1, i2, i3⟩ W hW
 unfold F77_B2
 dsimp only
 refine ⟨⟨by dsimp only; omega, by dsimp only; omega, by rw [lim_eq]; exact hs⟩, ?_⟩
 rw [Int.toNat_natCast]
 cases hd : (bl s).drop q with
 | nil =>
  rw [hd] at i3
  exact i3 _
 | cons c r =>
  obtain ⟨d1, d2, d3⟩ := drop_next hd
  rw [hd] at i3
  simp only [numR] at i3
  show bif decide ((c.toNat : Int) = 58) then _ else _
  have w1 : IntKind.i64.wrap ((q : Int) + 1) = ((q + 1 : Nat) : Int) := by rw [wrap64 (by omega) (by omega)]; omega
  have hJ8 : ∀ t : Bool, (t = true ↔ (c.toNat < 48 ∨ 57 < c.toNat ∨ (first = false /\ n = 0))) -> ¬ (c.toNat = 58 /\ first = false) -> F77_J8 K X W (n : Int) (c.toNat : Int) t s (q : Int) k := fun t ht hn => by
   rw [if_neg hn] at i3
   unfold F77_J8
   cases t
   . have hn2 : ¬ (c.toNat < 48 ∨ 57 < c.toNat ∨ (first = false /\ n = 0)) := fun h => by have := ht.2 h; cases this
     rw [if_neg hn2] at i3
     have h1 : 48 <= c.toNat := by omega
     have h2 : c.toNat <= 57 := by omega
     have hval : IntKind.i64.wrap ((IntKind.i64.wrap (10 * (n : Int))) + (IntKind.i64.wrap (IntKind.u8.wrap ((c.toNat : Int) - 48)))) = ((10 * n + (c.toNat - 48) : Nat) : Int) := by
      rw [digit_val h1 h2, wrap64 (n := 10 * (n : Int)) (by omega) (by omega), wrap64 (by omega) (by omega)]; omega
     rw [cond_false, hval, bif_dec, w1]
     by_cases h3 : 65536 < 10 * n + (c.toNat - 48)
     . rw [if_pos h3] at i3
       rw [if_pos (by omega)]
       exact i3 _
     . rw [if_neg h3] at i3
       rw [if_neg (by omega)]
       refine hW _ ⟨false, _, q + 1, rfl, by omega, by omega, by rw [d1]; exact i3⟩ ?_
       dsimp only
       rw [Int.toNat_natCast, Int.toNat_natCast]; omega
   . rw [if_pos (ht.1 rfl)] at i3
     exact i3 _
  have hJ6 : ¬ (c.toNat = 58 /\ first = false) -> F77_J6 K X W (n : Int) first (c.toNat : Int) false s (q : Int) k := fun hn => by
   unfold F77_J6
   rw [cond_false, bif_dec]
   split
   . exact hJ8 _ ⟨fun _ => .inl (by omega), fun _ => rfl⟩ hn
   . rw [bif_dec]
     split
     . exact hJ8 _ ⟨fun _ => .inr (.inl (by omega)), fun _ => rfl⟩ hn
     . rw [bif_not]
       cases first
       . rw [cond_false]
         refine hJ8 _ ⟨fun h => .inr (.inr ⟨rfl, by have := of_decide_eq_true h; omega⟩), fun h => decide_eq_true (by omega)⟩ hn
       . rw [cond_true]
         refine hJ8 false ⟨fun h => Bool.noConfusion h, fun h => ?_⟩ hn
         rcases h with h | h | h
         . omega
         . omega
         . cases h.1
  rw [bif_dec]
  by_cases h58 : c.toNat = 58
  . rw [if_pos (by omega)]
    cases first
    . rw [if_pos ⟨h58, rfl⟩] at i3
      unfold F77_J6
      rw [Bool.not_false, cond_true, w1, show ((q + 1 : Nat) : Int) = (s.size : Int) - (r.length : Int) by omega]
      exact i3
    . exact hJ6 (by simp)
  . rw [if_neg (by omega)]
    exact hJ6 (fun h => h58 h.1)
def rw77 : Raw := ⟨S77, O77, L77, 0, fun g K X => nextPre g /\ numF g K X⟩
theorem rw77_ok : rw77.Ok Tryz.prog 77 := by
 rintro ⟨s, p, n, ⟨⟩⟩ K X ⟨⟨h1, h2, h3⟩, h⟩
 obtain ⟨q, rfl⟩ := Int.eq_ofNat_of_zero_le h1
 rw [lim_eq] at h3
 exact F77_ok _ K X (F77_is (Int.ofNat_le.1 h2) (by dsimp only [Lf.ty] at *; omega) h)
def fin35 : List UInt8 -> Bool
 | [] => false
 | c :: r => decide (r = []) || !decide (c.toNat = 48)
theorem digs_cons (c : UInt8) (r : List UInt8) : digs (c :: r) = (decide (48 <= c.toNat) && decide (c.toNat <= 57) && digs r) := rfl
theorem F59_loop {s : ByteArray} {K : Kn} (hs : s.size <= 4294967296) (h : K (.bool (digs (bl s) && fin35 (bl s))) []) : F59_L6 K (s, 0, ()) := by
 have hl := bl_len s
 unfold F59_L6
 refine LoopW.fold (bl s) (fun n (_ : Unit) => (s, (n : Int), ())) (fun r n _ => K (.bool (digs r && fin35 (bl s))) [] /\ (bl s).drop n = r) (a0 := ()) rfl ⟨h, rfl⟩ (fun _ hp W => ?_) (fun n hn r _ hr hp W hW => ?_)
 . unfold F59_B6
   rw [bif_dec, if_neg (by dsimp only; omega), bif_dec]
   have hp := hp.1
   dsimp only
   cases hb : bl s with
   | nil =>
    rw [hb] at hp hl
    simp at hl
    rw [if_neg (by omega), bif_dec, if_neg (by omega)]
    exact hp
   | cons c r =>
    rw [hb] at hp hl
    simp only [List.length_cons] at hl
    by_cases h1 : r = []
    . subst h1
      simp at hl
      rw [if_pos (by omega)]
      simp only [fin35, decide_true, Bool.true_or, Bool.and_true] at hp
      exact hp
    . have : 0 < r.length := List.length_pos_iff.2 h1
      rw [if_neg (by omega), bif_dec, if_pos (by omega)]
      refine StrAt_of (n := 0) (by rw [List.drop_zero]; exact hb) ?_
      simp only [fin35, decide_eq_false h1, Bool.false_or] at hp
      rw [show decide ((c.toNat : Int) = 48) = decide (c.toNat = 48) from decide_eq_decide.2 (by omega)]
      exact hp
 . unfold F59_B6
   obtain ⟨hp, hd⟩ := hp
   obtain ⟨d1, _, _⟩ := drop_next hd
   rw [bif_dec, if_pos (by dsimp only; omega)]
   dsimp only
   refine StrAt_of hd ?_
   rw [digs_cons] at hp
   rw [bif_dec]
   split
   . rename_i h1
     rw [decide_eq_false (show ¬ 48 <= (bl s)[n].toNat by omega)] at hp
     exact hp
   . rename_i h1
     refine StrAt_of hd ?_
     rw [decide_eq_true (show 48 <= (bl s)[n].toNat by omega), Bool.true_and] at hp
     unfold F59_J10
     by_cases h2 : 57 < (bl s)[n].toNat
     . rw [decide_eq_false (show ¬ (bl s)[n].toNat <= 57 by omega)] at hp
       rw [decide_eq_true (by omega)]
       exact hp
     . rw [decide_eq_true (show (bl s)[n].toNat <= 57 by omega), Bool.true_and] at hp
       rw [decide_eq_false (by omega), cond_false, wrapS hn (by omega)]
       exact hW () ⟨hp, d1⟩
theorem F59_is {Z : prodL L59 -> Prop} {s : ByteArray} {K : Kn} (hs : s.size <= 4294967296) (hZ : 1 < s.size -> ∀ t : ByteArray, t.size < s.size -> Z (t, ())) (h : K (.bool (decR (bl s))) []) : F59 Z (s, ()) K := by
 have hl := bl_len s
 unfold F59
 dsimp only [Lf.ty, prodL]
 rw [bif_dec]
 cases hb : bl s with
 | nil =>
  rw [hb] at hl h
  simp at hl
  rw [if_neg (by omega)]
  unfold F59_J4
  rw [cond_false]
  exact F59_loop hs (by rw [hb]; exact h)
 | cons c r =>
  rw [hb] at hl h
  simp only [List.length_cons] at hl
  simp only [decR] at h
  by_cases hr : r = []
  . subst hr
    simp at hl
    rw [if_neg (by simp)] at h
    rw [if_neg (by omega)]
    unfold F59_J4
    rw [cond_false]
    exact F59_loop hs (by rw [hb]; exact h)
  . have hr0 : 0 < r.length := List.length_pos_iff.2 hr
    rw [if_pos (by omega)]
    refine StrAt_of (n := 0) (by rw [List.drop_zero]; exact hb) ?_
    unfold F59_J4
    by_cases h45 : c.toNat = 45
    . rw [decide_eq_true (show (c.toNat : Int) = 45 by omega), cond_true, bif_not, bif_dec]
      rw [if_pos ⟨h45, hr⟩] at h
      have hc : c = 45 := UInt8.toNat_inj.1 h45
      have hs0 : s = (⟨#[45, 48]⟩ : ByteArray) ↔ r = [48] := by
       constructor
       . intro e
         rw [e] at hb
         simp [bl] at hb
         exact hb.2.symm
       . intro e
         apply bl_inj
         rw [hb, e, hc]; rfl
      by_cases h0 : r = [48]
      . rw [if_pos (hs0.2 h0)]
        rw [decide_eq_true h0] at h
        exact h
      . rw [if_neg fun e => h0 (hs0.1 e)]
        rw [decide_eq_false h0, Bool.not_false, Bool.true_and] at h
        have he : bl (s.extract (1 : Int).toNat (s.size : Int).toNat) = r := by
         rw [bl_extract, hb, Int.toNat_natCast, List.take_of_length_le (by simp only [List.length_cons]; omega)]; rfl
        have hsz : (s.extract (1 : Int).toNat (s.size : Int).toNat).size < s.size := by rw [<- bl_len, he]; omega
        refine ⟨by omega, by omega, by omega, hZ (by omega) _ hsz, ?_⟩
        rw [he]
        cases hd : decR r
        . rw [hd, Bool.false_and] at h; exact h
        . rw [hd, Bool.true_and] at h
          rw [cond_true]
          cases r with
          | nil => exact absurd rfl hr
          | cons c2 r2 =>
           refine StrAt_of (n := 1) (by rw [hb]; rfl) ?_
           rw [show decide ((c2.toNat : Int) = 45) = decide ((c2 :: r2).head? = some 45) from decide_eq_decide.2 (by
            simp only [List.head?_cons, Option.some.injEq]
            rw [<- UInt8.toNat_inj]
            show _ ↔ c2.toNat = 45
            omega)]
           exact h
    . rw [decide_eq_false (show ¬ (c.toNat : Int) = 45 by omega), cond_false]
      rw [if_neg (by simp [h45])] at h
      exact F59_loop hs (by rw [hb]; exact h)
def strP (s : ByteArray) : Prop := s.size <= 4294967296
def sp59 : Sp := spz59 fun g => strP g.1
theorem sp59_all : ∀ n, (spz59 fun g => strP g.1 /\ g.1.size < n).Ok Tryz.prog 59 true
 | 0 => ⟨fun _ _ _ h _ => absurd h.2 (Nat.not_lt_zero _), fun _ _ _ => rfl, fun _ => rfl, fun _ _ => ⟨rfl, rfl⟩⟩
 | n + 1 => ⟨by
   rintro ⟨s, ⟨⟩⟩ K X ⟨q1, q2⟩ h
   have q1 : s.size <= 4294967296 := q1
   have q2 : s.size < n + 1 := q2
   exact F59_ok _ (sp59_all n) _ _ X (F59_is q1 (fun _ t ht => ⟨(by omega : t.size <= 4294967296), (by omega : t.size < n)⟩) h), fun _ _ _ => rfl, fun _ => rfl, fun _ _ => ⟨rfl, rfl⟩⟩
theorem sp59_ok : sp59.Ok Tryz.prog 59 true :=
 ⟨fun g K X hp h => (sp59_all (g.1.size + 1)).calls g K X ⟨hp, Nat.lt_succ_self _⟩ h, fun _ _ _ => rfl, fun _ => rfl, fun _ _ => ⟨rfl, rfl⟩⟩
theorem F78_loop {s d : ByteArray} {K : Kn} (hs : d.size <= 4294967296) (h : K (.bool (digs (bl d) && !decide (bl d = []) && (!head48 (bl d) || decide (bl s = [48])))) []) : F78_J14 K s d := by
 have hl := bl_len d
 unfold F78_J14 F78_L8
 refine LoopW.fold (bl d) (fun n (_ : Unit) => (s, d, (d.size : Int), (n : Int), ())) (fun r n _ => K (.bool (digs r && !decide (bl d = []) && (!head48 (bl d) || decide (bl s = [48])))) [] /\ (bl d).drop n = r) (a0 := ()) rfl ⟨h, rfl⟩ (fun _ hp W => ?_) (fun n hn r _ hr hp W hW => ?_)
 . unfold F78_B8
   rw [bif_dec, if_neg (by dsimp only; omega), bif_not, bif_dec]
   have hp := hp.1
   dsimp only
   have hd0 : d = (⟨#[]⟩ : ByteArray) ↔ bl d = [] := ⟨fun e => by rw [e]; rfl, fun e => bl_inj (by rw [e]; rfl)⟩
   cases hb : bl d with
   | nil =>
    rw [hb] at hp
    rw [if_pos (hd0.2 hb)]
    exact hp
   | cons c r =>
    rw [hb] at hp
    rw [if_neg (fun e => by rw [hd0.1 e] at hb; cases hb)]
    refine StrAt_of (n := 0) (by rw [List.drop_zero]; exact hb) ?_
    simp only [digs, List.all_nil, Bool.true_and, reduceCtorEq, decide_false, Bool.not_false, head48] at hp
    have e1 : decide ((c.toNat : Int) = 48) = decide (c.toNat = 48) := decide_eq_decide.2 (by omega)
    have e2 : decide (s = (⟨#[48]⟩ : ByteArray)) = decide (bl s = [48]) := decide_eq_decide.2 ⟨fun e => by rw [e]; rfl, fun e => bl_inj (by rw [e]; rfl)⟩
    rw [bif_not, e1, e2]
    cases hx : decide (c.toNat = 48)
    . rw [hx] at hp; exact hp
    . rw [hx] at hp; exact hp
 . unfold F78_B8
   obtain ⟨hp, hd⟩ := hp
   obtain ⟨d1, _, _⟩ := drop_next hd
   rw [bif_dec, if_pos (by dsimp only; omega)]
   dsimp only
   refine StrAt_of hd ?_
   rw [digs_cons] at hp
   rw [bif_dec]
   split
   . rename_i h1
     rw [decide_eq_false (show ¬ 48 <= (bl d)[n].toNat by omega)] at hp
     exact hp
   . rename_i h1
     refine StrAt_of hd ?_
     rw [decide_eq_true (show 48 <= (bl d)[n].toNat by omega), Bool.true_and] at hp
     unfold F78_J12
     by_cases h2 : 57 < (bl d)[n].toNat
     . rw [decide_eq_false (show ¬ (bl d)[n].toNat <= 57 by omega)] at hp
       rw [decide_eq_true (by omega)]
       exact hp
     . rw [decide_eq_true (show (bl d)[n].toNat <= 57 by omega), Bool.true_and] at hp
       rw [decide_eq_false (by omega), cond_false, wrapS hn (by omega)]
       exact hW () ⟨hp, d1⟩
theorem F78_is {s : ByteArray} {K : Kn} (hs : s.size <= 4294967296) (h : K (.bool (canR (bl s))) []) : F78 (s, ()) K := by
 have hl := bl_len s
 unfold F78
 dsimp only [Lf.ty, prodL]
 unfold canR at h
 have hsz : (⟨#[45]⟩ : ByteArray).size = 1 := rfl
 have key : (bl s).head? ≠ some 45 -> F78_J5 K (s, ()) s (⟨#[45]⟩ : ByteArray) false := fun hn => by
  rw [if_neg hn] at h
  exact F78_loop hs h
 rw [bif_dec, hsz]
 cases hb : bl s with
 | nil =>
  rw [hb] at hl
  simp at hl
  rw [if_neg (by omega)]
  exact key (by rw [hb]; simp)
 | cons c r =>
  rw [hb] at hl
  simp only [List.length_cons] at hl
  rw [if_pos (by omega)]
  refine ⟨by omega, by omega, by omega, ?_⟩
  have e1 : bl (s.extract (0 : Int).toNat ((1 : Nat) : Int).toNat) = [c] := by rw [bl_extract, hb]; rfl
  have e2 : decide (s.extract (0 : Int).toNat ((1 : Nat) : Int).toNat = (⟨#[45]⟩ : ByteArray)) = decide (c = 45) := decide_eq_decide.2 ⟨fun e => by
   rw [e] at e1
   simp [bl] at e1
   exact e1.symm, fun e => bl_inj (by rw [e1, e]; rfl)⟩
  rw [e2]
  by_cases hc : c = 45
  . rw [decide_eq_true hc]
    unfold F78_J5
    rw [cond_true, hsz]
    refine ⟨by omega, by omega, by omega, ?_⟩
    have he : bl (s.extract ((1 : Nat) : Int).toNat (s.size : Int).toNat) = r := by
     rw [bl_extract, hb, Int.toNat_natCast, Int.toNat_natCast, List.take_of_length_le (by simp only [List.length_cons]; omega)]; rfl
    rw [hb, hc] at h
    simp only [List.head?_cons, if_true, List.tail_cons] at h
    refine F78_loop (by rw [<- bl_len, he]; omega) ?_
    rw [he, hb, hc]
    exact h
  . rw [decide_eq_false hc]
    exact key (by rw [hb]; simpa using hc)
def sp78 : Sp := ⟨S78, L78, fun g => strP g.1, fun g => .bool (canR (bl g.1)), fun _ => none⟩
theorem sp78_ok : sp78.Ok Tryz.prog 78 true :=
 ⟨by rintro ⟨s, ⟨⟩⟩ K X q1 h; exact F78_ok _ _ X (F78_is q1 h), fun _ _ _ => rfl, fun _ => rfl, fun _ _ => ⟨rfl, rfl⟩⟩
end Go.Proofs.YtoclmkbjgmgekaaGreatDoor
namespace Go.Proofs.YtoclmkbjgmgekaaGreatDoor
open Go.RowKit
attribute [local irreducible] dfun dround
def H56 : List (Nat × Hint) := [(13, ⟨[((2, []), none), ((4, []), none), ((5, []), none), ((8, []), none), ((8, [2]), some .sexp)], [(1, .leaf), (2, .pt 0 0), (4, .pt 1 0), (5, .pt 2 0), (8, .pt 3 0)], [.cells [.leaf, .leaf, .leaf, .leaf], .cells [.leaf, .leaf, .nil], .cells [.leaf, .leaf, .leaf, .leaf], .cells [.leaf, .leaf, .oa .sexp 4], .arr .sexp], [.int .i64, .str, .int .i64, .int .i64, .int .i64, .bool, .str, .str, .int .i64, .int .i64, .int .i64, .bool, .str, .sl .sexp]⟩)]
def J56 : List (Nat × Hint) := [(5, ⟨[((2, []), none), ((4, []), none), ((5, []), none)], [(1, .leaf), (2, .pt 0 0), (4, .pt 1 0), (5, .pt 2 0), (26, .leaf)], [.cells [.leaf, .leaf, .leaf, .leaf], .cells [.leaf, .leaf, .nil], .cells [.leaf, .leaf, .leaf, .leaf]], [.int .i64, .bool, .str, .int .i64, .int .i64, .int .i64, .bool, .str, .str, .int .i64, .int .i64, .int .i64]⟩), (10, ⟨[((4, []), none), ((5, []), none), ((7, []), none)], [(4, .pt 0 0), (5, .pt 1 0), (6, .leaf), (7, .pt 2 0)], [.cells [.leaf, .leaf, .nil], .cells [.leaf, .leaf, .leaf, .leaf], .cells [.leaf, .leaf, .leaf, .leaf]], [.str, .bool, .str, .str, .int .i64, .int .i64, .int .i64, .str, .int .i64, .int .i64, .int .i64]⟩), (14, ⟨[((2, []), none), ((4, []), none), ((5, []), none), ((8, []), none), ((8, [2]), none)], [(1, .leaf), (2, .pt 0 0), (4, .pt 1 0), (5, .pt 2 0), (8, .pt 3 0)], [.cells [.leaf, .leaf, .leaf, .leaf], .cells [.leaf, .leaf, .nil], .cells [.leaf, .leaf, .leaf, .leaf], .cells [.leaf, .leaf, .oa .sexp 4], .arr .sexp], [.int .i64, .str, .int .i64, .int .i64, .int .i64, .bool, .str, .str, .int .i64, .int .i64, .int .i64, .bool, .str, .sl .sexp]⟩), (15, ⟨[((2, []), none), ((4, []), none), ((5, []), none), ((8, []), none), ((9, []), none), ((10, []), none), ((8, [2]), none)], [(1, .leaf), (2, .pt 0 0), (4, .pt 1 0), (5, .pt 2 0), (8, .pt 3 0), (9, .pt 4 0), (10, .pt 5 0)], [.cells [.leaf, .leaf, .leaf, .leaf], .cells [.leaf, .leaf, .nil], .cells [.leaf, .leaf, .leaf, .leaf], .cells [.leaf, .leaf, .oa .sexp 6], .cells [.leaf, .leaf, .leaf], .cells [.leaf, .leaf, .leaf, .leaf], .arr .sexp], [.int .i64, .str, .int .i64, .int .i64, .int .i64, .bool, .str, .str, .int .i64, .int .i64, .int .i64, .bool, .str, .bool, .str, .sl .sexp, .str, .int .i64, .int .i64, .int .i64, .sl .sexp]⟩), (17, ⟨[((2, []), none), ((4, []), none), ((5, []), none), ((8, []), none), ((10, []), none), ((8, [2]), none)], [(1, .leaf), (2, .pt 0 0), (4, .pt 1 0), (5, .pt 2 0), (8, .pt 3 0), (10, .pt 4 0)], [.cells [.leaf, .leaf, .leaf, .leaf], .cells [.leaf, .leaf, .nil], .cells [.leaf, .leaf, .leaf, .leaf], .cells [.leaf, .leaf, .oa .sexp 5], .cells [.leaf, .leaf, .leaf, .leaf], .arr .sexp], [.int .i64, .str, .int .i64, .int .i64, .int .i64, .bool, .str, .str, .int .i64, .int .i64, .int .i64, .bool, .str, .str, .int .i64, .int .i64, .int .i64, .sl .sexp]⟩), (19, ⟨[((2, []), none), ((4, []), none), ((5, []), none), ((8, []), none), ((10, []), none), ((8, [2]), none)], [(1, .leaf), (2, .pt 0 0), (4, .pt 1 0), (5, .pt 2 0), (8, .pt 3 0), (10, .pt 4 0)], [.cells [.leaf, .leaf, .leaf, .leaf], .cells [.leaf, .leaf, .nil], .cells [.leaf, .leaf, .leaf, .leaf], .cells [.leaf, .leaf, .oa .sexp 5], .cells [.leaf, .leaf, .leaf, .leaf], .arr .sexp], [.int .i64, .str, .int .i64, .int .i64, .int .i64, .bool, .str, .str, .int .i64, .int .i64, .int .i64, .bool, .str, .str, .int .i64, .int .i64, .int .i64, .sl .sexp]⟩), (20, ⟨[((2, []), none), ((4, []), none), ((5, []), none), ((8, []), none), ((8, [2]), none)], [(2, .pt 0 0), (4, .pt 1 0), (5, .pt 2 0), (8, .pt 3 0)], [.cells [.leaf, .leaf, .leaf, .leaf], .cells [.leaf, .leaf, .nil], .cells [.leaf, .leaf, .leaf, .leaf], .cells [.leaf, .leaf, .oa .sexp 4], .arr .sexp], [.str, .int .i64, .int .i64, .int .i64, .bool, .str, .str, .int .i64, .int .i64, .int .i64, .bool, .str, .sl .sexp]⟩)]
abbrev S56 : List Sh := [.ag [.leaf, .leaf, .leaf, .leaf], .leaf]
abbrev L56 : List Lf := [.str, .int .i64, .int .i64, .int .i64, .int .i64]
abbrev O56 : List ObSh := []
def rwz56 (Z : prodL L56 -> Prop) : Raw := ⟨S56, O56, L56, 0, fun g K X => Z g /\ readF g K X⟩
def F56_J8 (K : Kn) (s_7 : ByteArray) (t1_7 : Bool) (t2_7 t12_7 : ByteArray) (t22_7 t3_7 t4_7 : Int) (rest1_7 : ByteArray) (rest2_7 rest3_7 rest4_7 : Int) : Prop :=
 K (.tu [.ag [.bool false, .str s_7, .nil], .ag [.str rest1_7, .int .i64 rest2_7, .int .i64 rest3_7, .int .i64 rest4_7]]) []
def F56_J42 (K : Kn) (r1_41 : ByteArray) (r2_41 r3_41 r4_41 : Int) (t1_41 : Bool) (t2_41 t12_41 : ByteArray) (t22_41 t3_41 t4_41 : Int) (x1_41 : Bool) (x2_41 : ByteArray) (x_41 : List Sx) : Prop :=
 K (.tu [.ag [.bool x1_41, .str x2_41, .sl false .sexp x_41], .ag [.str r1_41, .int .i64 (IntKind.i64.wrap (r2_41 + 1)), .int .i64 r3_41, .int .i64 r4_41]]) []
def F56_J37 (K : Kn) (W26 : prodL [.int .i64, .str, .int .i64, .int .i64, .int .i64, .bool, .str, .str, .int .i64, .int .i64, .int .i64, .bool, .str, .sl .sexp] -> Prop) (depth_36 : Int) (r1_36 : ByteArray) (r2_36 r3_36 r4_36 : Int) (t1_36 : Bool) (t2_36 t12_36 : ByteArray) (t22_36 t3_36 t4_36 : Int) (x1_36 : Bool) (x2_36 rest1_36 : ByteArray) (rest2_36 rest3_36 rest4_36 : Int) (x_36 : List Sx) : Prop :=
 W26 (depth_36, rest1_36, rest2_36, rest3_36, rest4_36, t1_36, t2_36, t12_36, t22_36, t3_36, t4_36, x1_36, x2_36, x_36, ())
def F56_J38 (K : Kn) (W26 : prodL [.int .i64, .str, .int .i64, .int .i64, .int .i64, .bool, .str, .str, .int .i64, .int .i64, .int .i64, .bool, .str, .sl .sexp] -> Prop) (depth_35 : Int) (r1_35 : ByteArray) (r2_35 r3_35 r4_35 : Int) (t1_35 : Bool) (t2_35 t12_35 : ByteArray) (t22_35 t3_35 t4_35 : Int) (x1_35 : Bool) (x2_35 rest1_35 : ByteArray) (rest2_35 rest3_35 rest4_35 : Int) (x_35 : List Sx) : Prop :=
 bif decide (r2_35 = (r1_35.size : Int)) then (
  F56_J37 K W26 depth_35 r1_35 r2_35 r3_35 r4_35 t1_35 t2_35 t12_35 t22_35 t3_35 t4_35 x1_35 x2_35 rest1_35 rest2_35 rest3_35 11 x_35)
 else (
  F56_J37 K W26 depth_35 r1_35 r2_35 r3_35 r4_35 t1_35 t2_35 t12_35 t22_35 t3_35 t4_35 x1_35 x2_35 rest1_35 rest2_35 rest3_35 rest4_35 x_35)
def F56_J39 (K : Kn) (W26 : prodL [.int .i64, .str, .int .i64, .int .i64, .int .i64, .bool, .str, .str, .int .i64, .int .i64, .int .i64, .bool, .str, .sl .sexp] -> Prop) (depth_34 : Int) (r1_34 : ByteArray) (r2_34 r3_34 r4_34 : Int) (t1_34 : Bool) (t2_34 t12_34 : ByteArray) (t22_34 t3_34 t4_34 : Int) (x1_34 : Bool) (x2_34 : ByteArray) (y1_34 : Bool) (y2_34 : ByteArray) (y3_34 : List Sx) (rest1_34 : ByteArray) (rest2_34 rest3_34 rest4_34 : Int) (x_34 : List Sx) : Prop :=
 bif decide (rest4_34 = 0) then (
  Room (x_34.length + [(⟨y1_34, y2_34, y3_34⟩ : Sx)].length) 48 (
  F56_J38 K W26 depth_34 r1_34 r2_34 r3_34 r4_34 t1_34 t2_34 t12_34 t22_34 t3_34 t4_34 x1_34 x2_34 rest1_34 rest2_34 rest3_34 rest4_34 (x_34 ++ [(⟨y1_34, y2_34, y3_34⟩ : Sx)])))
 else (
  F56_J38 K W26 depth_34 r1_34 r2_34 r3_34 r4_34 t1_34 t2_34 t12_34 t22_34 t3_34 t4_34 x1_34 x2_34 rest1_34 rest2_34 rest3_34 rest4_34 x_34)
def F56_J40 (K : Kn) (W26 : prodL [.int .i64, .str, .int .i64, .int .i64, .int .i64, .bool, .str, .str, .int .i64, .int .i64, .int .i64, .bool, .str, .sl .sexp] -> Prop) (Z : prodL L56 -> Prop) (depth_28 : Int) (r1_28 : ByteArray) (r2_28 r3_28 r4_28 : Int) (t1_28 : Bool) (t2_28 t12_28 : ByteArray) (t22_28 t3_28 t4_28 : Int) (x1_28 : Bool) (x2_28 : ByteArray) (x_28 : List Sx) : Prop :=
 Z (r1_28, r2_28, r3_28, r4_28, IntKind.i64.wrap (depth_28 - 1), ()) /\
 Res.go (rdS (IntKind.i64.wrap (depth_28 - 1)).toNat (20000 - r3_28).toNat ((bl r1_28).drop r2_28.toNat)) (fun a29 =>
 F56_J39 K W26 depth_28 r1_28 r2_28 r3_28 r4_28 t1_28 t2_28 t12_28 t22_28 t3_28 t4_28 x1_28 x2_28 a29.1.isList a29.1.atom a29.1.list r1_28 ((r1_28.size : Int) - (a29.2.2.length : Int)) (20000 - (a29.2.1 : Int)) 0 x_28) (fun e30 => ∀ (y33 : Sx) (p31 m32 : Int),
 F56_J39 K W26 depth_28 r1_28 r2_28 r3_28 r4_28 t1_28 t2_28 t12_28 t22_28 t3_28 t4_28 x1_28 x2_28 y33.isList y33.atom y33.list r1_28 p31 m32 e30 x_28)
def F56_B26 (K : Kn) (Z : prodL L56 -> Prop) (W26 : prodL [.int .i64, .str, .int .i64, .int .i64, .int .i64, .bool, .str, .str, .int .i64, .int .i64, .int .i64, .bool, .str, .sl .sexp] -> Prop) (depth_25 : Int) (r1_25 : ByteArray) (r2_25 r3_25 r4_25 : Int) (t1_25 : Bool) (t2_25 t12_25 : ByteArray) (t22_25 t3_25 t4_25 : Int) (x1_25 : Bool) (x2_25 : ByteArray) (x_25 : List Sx) : Prop :=
 bif decide (r4_25 = 0) then (
  bif decide (r2_25 = (r1_25.size : Int)) then (
   F56_J40 K W26 Z depth_25 r1_25 r2_25 r3_25 r4_25 t1_25 t2_25 t12_25 t22_25 t3_25 t4_25 x1_25 x2_25 x_25)
  else (
   StrAt r1_25 r2_25 fun b27 =>
   bif !decide (b27 = 41) then (
  F56_J40 K W26 Z depth_25 r1_25 r2_25 r3_25 r4_25 t1_25 t2_25 t12_25 t22_25 t3_25 t4_25 x1_25 x2_25 x_25)
 else (
  F56_J42 K r1_25 r2_25 r3_25 r4_25 t1_25 t2_25 t12_25 t22_25 t3_25 t4_25 x1_25 x2_25 x_25)))
 else (
  F56_J42 K r1_25 r2_25 r3_25 r4_25 t1_25 t2_25 t12_25 t22_25 t3_25 t4_25 x1_25 x2_25 x_25)
def F56_L26 (K : Kn) (Z : prodL L56 -> Prop) (g : prodL [.int .i64, .str, .int .i64, .int .i64, .int .i64, .bool, .str, .str, .int .i64, .int .i64, .int .i64, .bool, .str, .sl .sexp]) : Prop :=
 LoopW (γ := prodL [.int .i64, .str, .int .i64, .int .i64, .int .i64, .bool, .str, .str, .int .i64, .int .i64, .int .i64, .bool, .str, .sl .sexp]) (fun V y => F56_B26 K Z V y.1 y.2.1 y.2.2.1 y.2.2.2.1 y.2.2.2.2.1 y.2.2.2.2.2.1 y.2.2.2.2.2.2.1 y.2.2.2.2.2.2.2.1 y.2.2.2.2.2.2.2.2.1 y.2.2.2.2.2.2.2.2.2.1 y.2.2.2.2.2.2.2.2.2.2.1 y.2.2.2.2.2.2.2.2.2.2.2.1 y.2.2.2.2.2.2.2.2.2.2.2.2.1 y.2.2.2.2.2.2.2.2.2.2.2.2.2.1) g
def F56_J2 (K : Kn) (Z : prodL L56 -> Prop) (depth_1 : Int) (t_1 : Bool) (r1_1 : ByteArray) (r2_1 r3_1 r4_1 : Int) (t1_1 : Bool) (t2_1 t12_1 : ByteArray) (t22_1 t3_1 t4_1 : Int) : Prop :=
 bif t_1 then (
  K (.tu [.ag [.bool false, .str (⟨#[]⟩ : ByteArray), .nil], .ag [.str r1_1, .int .i64 r2_1, .int .i64 r3_1, .int .i64 12]]) [])
 else (
  StrAt r1_1 r2_1 fun b3 =>
 bif !decide (b3 = 40) then (
  atomPre (r1_1, r2_1, IntKind.i64.wrap (r3_1 - 1), r4_1, ()) /\
  Res.go (atomR ((bl r1_1).drop r2_1.toNat)) (fun a4 =>
  F56_J8 K (⟨a4.1.toArray⟩ : ByteArray) t1_1 t2_1 t12_1 t22_1 t3_1 t4_1 r1_1 ((r1_1.size : Int) - (a4.2.length : Int)) (IntKind.i64.wrap (r3_1 - 1)) 0) (fun e5 => ∀ p6 : Int,
  F56_J8 K (⟨#[]⟩ : ByteArray) t1_1 t2_1 t12_1 t22_1 t3_1 t4_1 r1_1 p6 (IntKind.i64.wrap (r3_1 - 1)) e5))
 else (
  F56_L26 K Z (depth_1, r1_1, IntKind.i64.wrap (r2_1 + 1), IntKind.i64.wrap (r3_1 - 1), r4_1, t1_1, t2_1, t12_1, t22_1, t3_1, t4_1, true, (⟨#[]⟩ : ByteArray), [], ())))
def F56 (Z : prodL L56 -> Prop) (g : prodL L56) (K : Kn) : Prop :=
 bif decide (g.2.1 = (g.1.size : Int)) then (
  K (.tu [.ag [.bool false, .str (⟨#[]⟩ : ByteArray), .nil], .ag [.str g.1, .int .i64 g.2.1, .int .i64 g.2.2.1, .int .i64 11]]) [])
 else (
  bif decide (g.2.2.2.2.1 = 0) then (
  F56_J2 K Z g.2.2.2.2.1 true g.1 g.2.1 g.2.2.1 g.2.2.2.1 false (⟨#[]⟩ : ByteArray) (⟨#[]⟩ : ByteArray) 0 0 0)
 else (
  F56_J2 K Z g.2.2.2.2.1 (decide (g.2.2.1 = 0)) g.1 g.2.1 g.2.2.1 g.2.2.2.1 false (⟨#[]⟩ : ByteArray) (⟨#[]⟩ : ByteArray) 0 0 0))
theorem F56_eq (Z : prodL L56 -> Prop) (g : prodL L56) (K X : Kn) : F56 Z g K = dfun D (gamX [(56, rwz56 Z), (80, rw80)] []) (isRaw [(56, rwz56 Z), (80, rw80)]) H56 J56 102 [.cell 4 42, .cell 5 103] (codeOf Tryz.f56) (argsT S56 L56 g) (storeT S56 O56 L56 g) (settle0 K) X 0 := by kernel_rfl
theorem F56_ok (Z : prodL L56 -> Prop) (hZ : (rwz56 Z).Ok Tryz.prog 56) (g : prodL L56) (K X : Kn) (h : F56 Z g K) : FCalls Tryz.prog 56 (argsT S56 L56 g) (storeT S56 O56 L56 g) K X 0 :=
 FCalls.settle0 (dfun_sound (Γ := gamX [(56, rwz56 Z), (80, rw80)] []) (mu := isRaw [(56, rwz56 Z), (80, rw80)]) (H := H56) (J := J56) D_ok (gamX_ok (rs := [(56, rwz56 Z), (80, rw80)]) (l := []) (by intro p hp; simp only [List.mem_cons, List.not_mem_nil, or_false] at hp; rcases hp with rfl | rfl <;> first | exact hZ | exact rw80_ok) (fun p hp => by cases hp)) gamX_det rfl Tryz.func56 (c := codeOf Tryz.f56) rfl Tryz.ntmps56 Tryz.results56 (by unfold enters; rw [Tryz.func56]; kernel_rfl) (Nat.le_of_ble_eq_true (by kernel_rfl)) (c0 := 0) (Eq.mp (F56_eq Z g K X) h))
end Go.Proofs.YtoclmkbjgmgekaaGreatDoor
namespace Go.Proofs.YtoclmkbjgmgekaaGreatDoor
open Go.RowKit
attribute [local irreducible] dfun dround
def H54 : List (Nat × Hint) := [(13, ⟨[((4, []), none), ((7, []), none), ((7, [2]), some .sexp)], [(0, .pt 0 0), (1, .leaf), (4, .pt 1 0), (7, .pt 2 0)], [.cells [.leaf, .leaf, .leaf], .cells [.leaf, .leaf, .nil], .cells [.leaf, .leaf, .oa .sexp 3], .arr .sexp], [.int .i64, .str, .int .i64, .int .i64, .bool, .str, .bool, .str, .sl .sexp]⟩)]
def J54 : List (Nat × Hint) := [(4, ⟨[((4, []), none)], [(0, .pt 0 0), (1, .leaf), (4, .pt 1 0), (5, .leaf), (25, .leaf)], [.cells [.leaf, .leaf, .leaf], .cells [.leaf, .leaf, .nil]], [.int .i64, .int .u8, .bool, .str, .int .i64, .int .i64, .bool, .str]⟩)]
abbrev S54 : List Sh := [.pt 0 0, .leaf]
abbrev L54 : List Lf := [.int .i64, .str, .int .i64, .int .i64]
abbrev O54 : List ObSh := [.cells [.leaf, .leaf, .leaf]]
def rwz54 (Z : prodL L54 -> Prop) : Raw := ⟨S54, O54, L54, 0, fun g K X => Z g /\ sexpF g K X⟩
def F54_B17 (K X : Kn) (Z : prodL L54 -> Prop) (W17 : prodL [.int .i64, .str, .int .i64, .int .i64, .bool, .str, .bool, .str, .sl .sexp] -> Prop) (level_16 : Int) (o01_16 : ByteArray) (o02_16 o03_16 : Int) (t1_16 : Bool) (t2_16 : ByteArray) (out1_16 : Bool) (out2_16 : ByteArray) (out_16 : List Sx) : Prop :=
 nextPre (o01_16, o02_16, o03_16, ()) /\
 Res.go (headR ((bl o01_16).drop o02_16.toNat)) (fun a18 =>
 bif !decide ((a18.toNat : Int) = 41) then (
  Z (IntKind.i64.wrap (level_16 + 1), o01_16, o02_16, o03_16, ()) /\
 Res.go (rdS (13 - (IntKind.i64.wrap (level_16 + 1))).toNat o03_16.toNat ((bl o01_16).drop o02_16.toNat)) (fun a20 =>
 Room (out_16.length + [(⟨a20.1.isList, a20.1.atom, a20.1.list⟩ : Sx)].length) 48 (
 W17 (level_16, o01_16, (o01_16.size : Int) - (a20.2.2.length : Int), (a20.2.1 : Int), t1_16, t2_16, out1_16, out2_16, out_16 ++ [(⟨a20.1.isList, a20.1.atom, a20.1.list⟩ : Sx)], ()))) (fun e21 => ∀ (p22 m23 : Int),
 ∀ _ : Tm,
 X (.ic 93 (.ag [.int .i64 e21])) [some (.cells [.str o01_16, .int .i64 p22, .int .i64 m23])]))
 else (
  K (.ag [.bool out1_16, .str out2_16, .sl false .sexp out_16]) [some (.cells [.str o01_16, .int .i64 (IntKind.i64.wrap (o02_16 + 1)), .int .i64 o03_16])])) (fun e19 =>
 X (.ic 93 (.ag [.int .i64 e19])) [some (.cells [.str o01_16, .int .i64 o02_16, .int .i64 o03_16])])
def F54_L17 (K X : Kn) (Z : prodL L54 -> Prop) (g : prodL [.int .i64, .str, .int .i64, .int .i64, .bool, .str, .bool, .str, .sl .sexp]) : Prop :=
 LoopW (γ := prodL [.int .i64, .str, .int .i64, .int .i64, .bool, .str, .bool, .str, .sl .sexp]) (fun V y => F54_B17 K X Z V y.1 y.2.1 y.2.2.1 y.2.2.2.1 y.2.2.2.2.1 y.2.2.2.2.2.1 y.2.2.2.2.2.2.1 y.2.2.2.2.2.2.2.1 y.2.2.2.2.2.2.2.2.1) g
def F54_J4 (K X : Kn) (Z : prodL L54 -> Prop) (level_3 c_3 : Int) (t_3 : Bool) (o01_3 : ByteArray) (o02_3 o03_3 : Int) (t1_3 : Bool) (t2_3 : ByteArray) : Prop :=
 bif t_3 then (
  X (.ic 93 (.ag [.int .i64 12])) [some (.cells [.str o01_3, .int .i64 o02_3, .int .i64 o03_3])])
 else (
  bif !decide (c_3 = 40) then (
  nextPre (o01_3, o02_3, o03_3, ()) /\
  Res.go (numR true 0 ((bl o01_3).drop o02_3.toNat)) (fun a5 =>
  bif decide (IntKind.i64.wrap ((o01_3.size : Int) - ((o01_3.size : Int) - (a5.2.length : Int))) < (a5.1 : Int)) then (
   X (.ic 93 (.ag [.int .i64 11])) [some (.cells [.str o01_3, .int .i64 ((o01_3.size : Int) - (a5.2.length : Int)), .int .i64 o03_3])])
  else (
   (0 : Int) <= IntKind.i64.wrap ((IntKind.i64.wrap (((o01_3.size : Int) - (a5.2.length : Int)) + (a5.1 : Int))) - (a5.1 : Int)) /\ IntKind.i64.wrap ((IntKind.i64.wrap (((o01_3.size : Int) - (a5.2.length : Int)) + (a5.1 : Int))) - (a5.1 : Int)) <= IntKind.i64.wrap (((o01_3.size : Int) - (a5.2.length : Int)) + (a5.1 : Int)) /\ IntKind.i64.wrap (((o01_3.size : Int) - (a5.2.length : Int)) + (a5.1 : Int)) <= (o01_3.size : Int) /\
  K (.ag [.bool false, .str (o01_3.extract (IntKind.i64.wrap ((IntKind.i64.wrap (((o01_3.size : Int) - (a5.2.length : Int)) + (a5.1 : Int))) - (a5.1 : Int))).toNat (IntKind.i64.wrap (((o01_3.size : Int) - (a5.2.length : Int)) + (a5.1 : Int))).toNat), .nil]) [some (.cells [.str o01_3, .int .i64 (IntKind.i64.wrap (((o01_3.size : Int) - (a5.2.length : Int)) + (a5.1 : Int))), .int .i64 o03_3])])) (fun e6 => ∀ p7 : Int,
  X (.ic 93 (.ag [.int .i64 e6])) [some (.cells [.str o01_3, .int .i64 p7, .int .i64 o03_3])]))
 else (
  F54_L17 K X Z (level_3, o01_3, IntKind.i64.wrap (o02_3 + 1), o03_3, t1_3, t2_3, true, (⟨#[]⟩ : ByteArray), [], ())))
def F54 (Z : prodL L54 -> Prop) (g : prodL L54) (K X : Kn) : Prop :=
 nextPre (g.2.1, g.2.2.1, g.2.2.2.1, ()) /\
 Res.go (headR ((bl g.2.1).drop g.2.2.1.toNat)) (fun a1 =>
 bif decide (20000 < IntKind.i64.wrap (g.2.2.2.1 + 1)) then (
  F54_J4 K X Z g.1 (a1.toNat : Int) true g.2.1 g.2.2.1 (IntKind.i64.wrap (g.2.2.2.1 + 1)) false (⟨#[]⟩ : ByteArray))
 else (
  F54_J4 K X Z g.1 (a1.toNat : Int) (decide (12 < g.1)) g.2.1 g.2.2.1 (IntKind.i64.wrap (g.2.2.2.1 + 1)) false (⟨#[]⟩ : ByteArray))) (fun e2 =>
 X (.ic 93 (.ag [.int .i64 e2])) [some (.cells [.str g.2.1, .int .i64 g.2.2.1, .int .i64 g.2.2.2.1])])
theorem F54_eq (Z : prodL L54 -> Prop) (g : prodL L54) (K X : Kn) : F54 Z g K X = dfun D (gamX [(54, rwz54 Z), (76, rw76), (77, rw77)] []) (isRaw [(54, rwz54 Z), (76, rw76), (77, rw77)]) H54 J54 98 [.cell 4 42] (codeOf Tryz.f54) (argsT S54 L54 g) (storeT S54 O54 L54 g) (settleG (storeT S54 O54 L54 g).length 0 K) (settleD (storeT S54 O54 L54 g).length 0 X) 0 := by kernel_rfl
theorem F54_ok (Z : prodL L54 -> Prop) (hZ : (rwz54 Z).Ok Tryz.prog 54) (g : prodL L54) (K X : Kn) (h : F54 Z g K X) : FCalls Tryz.prog 54 (argsT S54 L54 g) (storeT S54 O54 L54 g) K X 0 :=
 FCalls.settleX (FCalls.settleG (dfun_sound (Γ := gamX [(54, rwz54 Z), (76, rw76), (77, rw77)] []) (mu := isRaw [(54, rwz54 Z), (76, rw76), (77, rw77)]) (H := H54) (J := J54) D_ok (gamX_ok (rs := [(54, rwz54 Z), (76, rw76), (77, rw77)]) (l := []) (by intro p hp; simp only [List.mem_cons, List.not_mem_nil, or_false] at hp; rcases hp with rfl | rfl | rfl <;> first | exact hZ | exact rw76_ok | exact rw77_ok) (fun p hp => by cases hp)) gamX_det rfl Tryz.func54 (c := codeOf Tryz.f54) rfl Tryz.ntmps54 (rs := [.cell 4 42]) Tryz.results54 (by unfold enters; rw [Tryz.func54]; kernel_rfl) (Nat.le_of_ble_eq_true (by kernel_rfl)) (X := (settleD (storeT S54 O54 L54 g).length 0 X)) (c0 := 0) (Eq.mp (F54_eq Z g K X) h)))
end Go.Proofs.YtoclmkbjgmgekaaGreatDoor
namespace Go.Proofs.YtoclmkbjgmgekaaGreatDoor
open Go.RowKit
theorem numR_ok : ∀ (l : List UInt8) (first : Bool) (n m : Nat) (r : List UInt8), numR first n l = .ok (m, r) -> (∃ p, p ≠ [] /\ l = p ++ r) /\ (n <= 65536 -> m <= 65536)
 | [], _, _, _, _, h => by simp [numR] at h
 | c :: l, first, n, m, r, h => by
  simp only [numR] at h
  split at h
  . simp only [Res.ok.injEq, Prod.mk.injEq] at h
    obtain ⟨rfl, rfl⟩ := h
    exact ⟨⟨[c], by simp, rfl⟩, fun h => h⟩
  . split at h
    . cases h
    . split at h
      . cases h
      . rename_i h3
        obtain ⟨⟨p, _, hp⟩, hm⟩ := numR_ok l false _ m r h
        exact ⟨⟨c :: p, by simp, by rw [hp]; rfl⟩, fun _ => hm (by omega)⟩
theorem numR_err : ∀ (l : List UInt8) (first : Bool) (n : Nat) (e : Int), numR first n l = .err e -> e = 11 ∨ e = 12
 | [], _, _, _, h => by simp only [numR, Res.err.injEq] at h; exact .inl h.symm
 | c :: l, first, n, e, h => by
  simp only [numR] at h
  split at h
  . cases h
  . split at h
    . simp only [Res.err.injEq] at h; exact .inr h.symm
    . split at h
      . simp only [Res.err.injEq] at h; exact .inr h.symm
      . exact numR_err l false _ e h
theorem atomR_ok {l a r : List UInt8} (h : atomR l = .ok (a, r)) : ∃ p, p ≠ [] /\ l = p ++ a ++ r := by
 unfold atomR atomG at h
 split at h
 . cases h
 . rename_i n q hq
   split at h
   . cases h
   . simp only [Res.ok.injEq, Prod.mk.injEq] at h
     obtain ⟨rfl, rfl⟩ := h
     obtain ⟨⟨p, h1, h2⟩, _⟩ := numR_ok l true 0 n q hq
     exact ⟨p, h1, by rw [List.append_assoc, List.take_append_drop]; exact h2⟩
theorem atomR_err {l : List UInt8} {e : Int} (h : atomR l = .err e) : e = 11 ∨ e = 12 := by
 unfold atomR atomG at h
 split at h
 . rename_i e' h'
   simp only [Res.err.injEq] at h
   subst h
   exact numR_err l true 0 _ h'
 . split at h
   . simp only [Res.err.injEq] at h; exact .inl h.symm
   . cases h
def Sound (f : Nat -> List UInt8 -> Res (Sx × Nat × List UInt8) Int) : Prop :=
 ∀ (k : Nat) (l : List UInt8), k <= 20000 -> (∀ x k' r, f k l = .ok (x, k', r) -> (∃ p, p ≠ [] /\ l = p ++ r /\ bkS x <= 4 * p.length) /\ k < k' /\ k' <= 20000) /\ ∀ e, f k l = .err e -> e = 11 ∨ e = 12
theorem rdL_sound {f : Nat -> List UInt8 -> Res (Sx × Nat × List UInt8) Int} (hf : Sound f) : ∀ (m k : Nat) (l : List UInt8) (acc : List Sx), k <= 20000 -> l.length < m ->
  (∀ xs k' r, rdL f m k l acc = .ok (xs, k', r) -> (∃ p ys, p ≠ [] /\ l = p ++ r /\ xs = acc ++ ys /\ bkSs ys <= 4 * (p.length - 1)) /\ k <= k' /\ k' <= 20000) /\ ∀ e, rdL f m k l acc = .err e -> e = 11 ∨ e = 12
 | 0, _, _, _, _, h => absurd h (Nat.not_lt_zero _)
 | m + 1, k, [], acc, hk, _ => ⟨fun _ _ _ h => (by simp [rdL] at h), fun e h => by simp only [rdL, Res.err.injEq] at h; exact .inl h.symm⟩
 | m + 1, k, c :: l, acc, hk, hm => by
  simp only [rdL]
  by_cases hc : c.toNat = 41
  . rw [if_pos hc]
    refine ⟨fun xs k' r h => ?_, fun e h => by cases h⟩
    simp only [Res.ok.injEq, Prod.mk.injEq] at h
    obtain ⟨rfl, rfl, rfl⟩ := h
    exact ⟨⟨[c], [], by simp, rfl, by simp, by simp [bkSs]⟩, Nat.le_refl _, hk⟩
  . rw [if_neg hc]
    obtain ⟨h1, h2⟩ := hf k (c :: l) hk
    cases hx : f k (c :: l) with
    | err e => exact ⟨fun _ _ _ h => (by cases h), fun e' h => by simp only [Res.err.injEq] at h; subst h; exact h2 e hx⟩
    | ok a =>
     obtain ⟨x, k', r'⟩ := a
     obtain ⟨⟨p, hp, hl, hb⟩, q1, q2⟩ := h1 x k' r' hx
     have hlen : r'.length < m := by
      have := congrArg List.length hl
      have : 0 < p.length := List.length_pos_iff.2 hp
      simp only [List.length_append, List.length_cons] at *; omega
     obtain ⟨g1, g2⟩ := rdL_sound hf m k' r' (acc ++ [x]) q2 hlen
     refine ⟨fun xs k2 r h => ?_, fun e h => g2 e h⟩
     obtain ⟨⟨p2, ys, hp2, hl2, hxs, hbs⟩, q3, q4⟩ := g1 xs k2 r h
     have hpl : 0 < p2.length := List.length_pos_iff.2 hp2
     have hpl1 : 0 < p.length := List.length_pos_iff.2 hp
     refine ⟨⟨p ++ p2, x :: ys, by simp [hp], by rw [hl, hl2, List.append_assoc], by rw [hxs]; simp, ?_⟩, by omega, q4⟩
     simp only [bkSs, List.length_append]; omega
theorem rdS_sound : ∀ (d : Nat), Sound (rdS d)
 | 0 => fun k l hk => by
  cases l with
  | nil => exact ⟨fun _ _ _ h => (by simp [rdS] at h), fun e h => by simp only [rdS, Res.err.injEq] at h; exact .inl h.symm⟩
  | cons c l => exact ⟨fun _ _ _ h => (by simp [rdS] at h), fun e h => by simp only [rdS, Res.err.injEq] at h; exact .inr h.symm⟩
 | d + 1 => fun k l hk => by
  cases l with
  | nil => exact ⟨fun _ _ _ h => (by simp [rdS] at h), fun e h => by simp only [rdS, Res.err.injEq] at h; exact .inl h.symm⟩
  | cons c l =>
   simp only [rdS]
   by_cases h1 : 20000 < k + 1
   . rw [if_pos h1]
     exact ⟨fun _ _ _ h => (by cases h), fun e h => by simp only [Res.err.injEq] at h; exact .inr h.symm⟩
   rw [if_neg h1]
   by_cases h2 : c.toNat ≠ 40
   . rw [if_pos h2]
     cases ha : atomR (c :: l) with
     | err e => exact ⟨fun _ _ _ h => (by cases h), fun e' h => by simp only [Res.err.injEq] at h; subst h; exact atomR_err ha⟩
     | ok a =>
      obtain ⟨a, r⟩ := a
      refine ⟨fun x k' r' h => ?_, fun e h => by cases h⟩
      simp only [Res.ok.injEq, Prod.mk.injEq] at h
      obtain ⟨rfl, rfl, rfl⟩ := h
      obtain ⟨p, hp, hl⟩ := atomR_ok ha
      have : 0 < p.length := List.length_pos_iff.2 hp
      refine ⟨⟨p ++ a, by simp [hp], hl, ?_⟩, by omega, by omega⟩
      have hsz : (⟨a.toArray⟩ : ByteArray).size = a.length := by rw [<- bl_len, bl_mk]
      simp only [bkS, bkSs, hsz, List.length_append]; omega
   . rw [if_neg h2]
     obtain ⟨g1, g2⟩ := rdL_sound (rdS_sound d) (l.length + 1) (k + 1) l [] (by omega) (Nat.lt_succ_self _)
     cases hx : rdL (rdS d) (l.length + 1) (k + 1) l [] with
     | err e => exact ⟨fun _ _ _ h => (by cases h), fun e' h => by simp only [Res.err.injEq] at h; subst h; exact g2 e hx⟩
     | ok a =>
      obtain ⟨xs, k', r⟩ := a
      refine ⟨fun x k2 r2 h => ?_, fun e h => by cases h⟩
      simp only [Res.ok.injEq, Prod.mk.injEq] at h
      obtain ⟨rfl, rfl, rfl⟩ := h
      obtain ⟨⟨p, ys, hp, hl, hxs, hb⟩, q1, q2⟩ := g1 xs k' r hx
      rw [List.nil_append] at hxs
      subst hxs
      have : 0 < p.length := List.length_pos_iff.2 hp
      have hsz : (⟨#[]⟩ : ByteArray).size = 0 := rfl
      refine ⟨⟨c :: p, by simp, by rw [hl]; rfl, ?_⟩, by omega, q2⟩
      simp only [bkS, hsz, List.length_cons]; omega
theorem drop_rest {s : ByteArray} {q : Nat} {p r : List UInt8} (h : (bl s).drop q = p ++ r) (hq : q <= s.size) : (s.size : Int) - (r.length : Int) = ((q + p.length : Nat) : Int) /\ (bl s).drop (q + p.length) = r /\ q + p.length <= s.size := by
 have hl := bl_len s
 have h1 := congrArg List.length h
 simp only [List.length_drop, List.length_append] at h1
 refine ⟨by omega, ?_, by omega⟩
 rw [<- List.drop_drop, h, List.drop_left' rfl]
end Go.Proofs.YtoclmkbjgmgekaaGreatDoor
namespace Go.Proofs.YtoclmkbjgmgekaaGreatDoor
open Go.RowKit
theorem wkK_of {K : Kn} {r : T} {s : St} (h : K r s) : wkK K r s := ⟨r, Weak.refl r, h⟩
theorem weak_nil {b : Bool} {a : ByteArray} : Weak (.ag [.bool b, .str a, .nil]) (.ag [.bool b, .str a, .sl false .sexp []]) :=
 Weak.ag (WeakL.cons (Weak.refl _) (WeakL.cons (Weak.refl _) (WeakL.cons (Weak.nil .sexp) WeakL.nil)))
theorem wkK_nil2 {K : Kn} {b : Bool} {a : ByteArray} {v : T} {s : St} (h : K (.tu [.ag [.bool b, .str a, .sl false .sexp []], v]) s) : wkK K (.tu [.ag [.bool b, .str a, .nil], v]) s :=
 ⟨_, Weak.tu (WeakL.cons weak_nil (WeakL.cons (Weak.refl _) WeakL.nil)), h⟩
theorem wkK_nil1 {K : Kn} {b : Bool} {a : ByteArray} {s : St} (h : K (.ag [.bool b, .str a, .sl false .sexp []]) s) : wkK K (.ag [.bool b, .str a, .nil]) s := ⟨_, weak_nil, h⟩
theorem F56_is {Z : prodL L56 -> Prop} {s : ByteArray} {p k d : Nat} {K X : Kn} (hp : p <= s.size) (hs : s.size <= 2147483648) (hk : k <= 20000) (hd : d <= 12)
  (hZ : ∀ q k' : Nat, q <= s.size -> k' <= 20000 -> 1 <= d -> Z (s, (q : Int), 20000 - (k' : Int), 0, (d : Int) - 1, ())) (h : readF (s, (p : Int), 20000 - (k : Int), 0, (d : Int), ()) K X) : F56 Z (s, (p : Int), 20000 - (k : Int), 0, (d : Int), ()) (wkK K) := by
 unfold readF at h
 dsimp only [Lf.ty, prodL] at h
 rw [Int.toNat_natCast, Int.toNat_natCast, show (20000 - (20000 - (k : Int))).toNat = k by omega] at h
 have hl := bl_len s
 have hnil : ∀ v, (∀ y : Sx, K (.tu [.ag [.bool y.isList, .str y.atom, .sl false .sexp y.list], v]) []) -> wkK K (.tu [.ag [.bool false, .str (⟨#[]⟩ : ByteArray), .nil], v]) [] := fun v hv => wkK_nil2 (hv ⟨false, ⟨#[]⟩, []⟩)
 unfold F56
 dsimp only [Lf.ty, prodL]
 rw [bif_dec]
 cases hdr : (bl s).drop p with
 | nil =>
  have := List.drop_eq_nil_iff.1 hdr
  rw [hdr, show rdS d k [] = .err 11 by cases d <;> rfl] at h
  rw [if_pos (by omega)]
  exact hnil _ fun y => h y _ _
 | cons c r =>
  obtain ⟨d1, d2, d3⟩ := drop_next hdr
  rw [hdr] at h
  rw [if_neg (by omega), bif_dec]
  cases d with
  | zero =>
   rw [if_pos (show ((0 : Nat) : Int) = 0 from rfl)]
   unfold F56_J2
   exact hnil _ fun y => h y _ _
  | succ d =>
   rw [if_neg (by omega)]
   simp only [rdS] at h
   unfold F56_J2
   by_cases hk1 : 20000 < k + 1
   . rw [if_pos hk1] at h
     rw [decide_eq_true (by omega), cond_true]
     exact hnil _ fun y => h y _ _
   rw [if_neg hk1] at h
   rw [decide_eq_false (by omega), cond_false]
   refine StrAt_of hdr ?_
   have w1 : IntKind.i64.wrap (20000 - (k : Int) - 1) = 20000 - ((k + 1 : Nat) : Int) := by rw [wrap64 (by omega) (by omega)]; omega
   have w2 : IntKind.i64.wrap ((p : Int) + 1) = ((p + 1 : Nat) : Int) := by rw [wrap64 (by omega) (by omega)]; omega
   have w3 : IntKind.i64.wrap (((d + 1 : Nat) : Int) - 1) = (d : Int) := by rw [wrap64 (by omega) (by omega)]; omega
   rw [bif_not, bif_dec, w1, w2]
   by_cases hc : c.toNat = 40
   . rw [if_pos (by omega)]
     rw [if_neg (by simpa using hc)] at h
     unfold F56_L26
     let Kok (a : List Sx × Nat × List UInt8) : Prop := K (.tu [.ag [.bool true, .str (⟨#[]⟩ : ByteArray), .sl false .sexp a.1], .ag [.str s, .int .i64 ((s.size : Int) - (a.2.2.length : Int)), .int .i64 (20000 - (a.2.1 : Int)), .int .i64 0]]) []
     let Kerr (e : Int) : Prop := ∀ (y : Sx) (p m : Int), K (.tu [.ag [.bool y.isList, .str y.atom, .sl false .sexp y.list], .ag [.str s, .int .i64 p, .int .i64 m, .int .i64 e]]) []
     have h0 : Res.go (rdL (rdS d) (r.length + 1) (k + 1) r []) Kok Kerr := by
      cases hx : rdL (rdS d) (r.length + 1) (k + 1) r [] with
      | ok a => rw [hx] at h; exact h
      | err e => rw [hx] at h; exact h
     refine LoopW.of (fun g => (∃ (q k' : Nat) (acc : List Sx) (m : Nat), g = (((d + 1 : Nat) : Int), s, (q : Int), 20000 - (k' : Int), 0, false, (⟨#[]⟩ : ByteArray), (⟨#[]⟩ : ByteArray), 0, 0, 0, true, (⟨#[]⟩ : ByteArray), acc, ()) /\ q <= s.size /\ k' <= 20000 /\ acc.length <= q /\ ((bl s).drop q).length < m /\ Res.go (rdL (rdS d) m k' ((bl s).drop q) acc) Kok Kerr) ∨
       (∃ (q left e : Int) (acc : List Sx), g = (((d + 1 : Nat) : Int), s, q, left, e, false, (⟨#[]⟩ : ByteArray), (⟨#[]⟩ : ByteArray), 0, 0, 0, true, (⟨#[]⟩ : ByteArray), acc, ()) /\ e ≠ 0 /\ Kerr e))
      (fun g => if g.2.2.2.2.1 = 0 then 1 + (s.size - g.2.2.1.toNat) else 0) ?_ (.inl ⟨p + 1, k + 1, [], r.length + 1, rfl, by omega, by omega, by simp, by rw [d1]; omega, by rw [d1]; exact h0⟩)
     rintro g (⟨q, k', acc, m, rfl, i1, i2, i3, i4, i5⟩ | ⟨q, left, e, acc, rfl, i1, i2⟩) W hW
     . unfold F56_B26
       dsimp only
       rw [decide_eq_true rfl, cond_true, bif_dec]
       have hJ40 : (∀ c l, (bl s).drop q = c :: l -> c.toNat ≠ 41) -> F56_J40 (wkK K) W Z ((d + 1 : Nat) : Int) s (q : Int) (20000 - (k' : Int)) 0 false (⟨#[]⟩ : ByteArray) (⟨#[]⟩ : ByteArray) 0 0 0 true (⟨#[]⟩ : ByteArray) acc := fun hne => by
        unfold F56_J40
        rw [w3]
        have hz := hZ q k' i1 i2 (by omega)
        rw [show ((d + 1 : Nat) : Int) - 1 = (d : Int) by omega] at hz
        refine ⟨hz, ?_⟩
        rw [Int.toNat_natCast, Int.toNat_natCast, show (20000 - (20000 - (k' : Int))).toNat = k' by omega]
        have herr : ∀ (y : Sx) (p m e : Int), e ≠ 0 -> (∀ e', e' = (if (q : Int) = (s.size : Int) then 11 else e) -> Kerr e') -> F56_J39 (wkK K) W ((d + 1 : Nat) : Int) s (q : Int) (20000 - (k' : Int)) 0 false (⟨#[]⟩ : ByteArray) (⟨#[]⟩ : ByteArray) 0 0 0 true (⟨#[]⟩ : ByteArray) y.isList y.atom y.list s p m e acc := fun y p m e he hK => by
         unfold F56_J39
         rw [decide_eq_false he, cond_false]
         unfold F56_J38
         rw [bif_dec]
         have hK := hK _ rfl
         split <;> rename_i hq
         . rw [if_pos hq] at hK
           unfold F56_J37
           refine hW _ (.inr ⟨_, _, _, _, rfl, by omega, hK⟩) ?_
           dsimp only
           rw [if_neg (by omega), if_pos rfl]; omega
         . rw [if_neg hq] at hK
           unfold F56_J37
           refine hW _ (.inr ⟨_, _, _, _, rfl, he, hK⟩) ?_
           dsimp only
           rw [if_neg he, if_pos rfl]; omega
        obtain ⟨m', rfl⟩ : ∃ m', m = m' + 1 := ⟨m - 1, by omega⟩
        cases hdq : (bl s).drop q with
        | nil =>
         have := List.drop_eq_nil_iff.1 hdq
         rw [hdq] at i5
         rw [show rdS d k' [] = .err 11 by cases d <;> rfl]
         exact fun y p m => herr y p m 11 (by omega) fun e' he' => by
          have : e' = 11 := by rw [he']; split <;> rfl
          subst this
          exact i5
        | cons c2 r2 =>
         obtain ⟨e1, e2, e3⟩ := drop_next hdq
         rw [hdq] at i5 i4
         have hne := hne c2 r2 hdq
         simp only [rdL, if_neg hne] at i5
         obtain ⟨s1, s2⟩ := rdS_sound d k' (c2 :: r2) i2
         cases hx : rdS d k' (c2 :: r2) with
         | err e =>
          rw [hx] at i5
          have he : e ≠ 0 := by rcases s2 e hx with h | h <;> omega
          exact fun y p m => herr y p m e he fun e' he' => by
           rw [if_neg (by omega)] at he'
           subst he'
           exact i5
         | ok a =>
          obtain ⟨x, k2, l2⟩ := a
          rw [hx] at i5
          obtain ⟨⟨pp, p1, p2, p3⟩, q1, q2⟩ := s1 x k2 l2 hx
          have hppl : 0 < pp.length := List.length_pos_iff.2 p1
          obtain ⟨z1, z2, z3⟩ := drop_rest (hdq.trans p2) i1
          show F56_J39 _ _ _ _ _ _ _ _ _ _ _ _ _ _ _ _ _ _ _ _ _ _ _
          unfold F56_J39
          rw [decide_eq_true rfl, cond_true]
          refine ⟨by simp only [List.length_cons, List.length_nil]; omega, ?_⟩
          unfold F56_J38
          rw [bif_dec, if_neg (by omega)]
          unfold F56_J37
          rw [Sx.eta]
          simp only
          rw [z1]
          refine hW _ (.inl ⟨q + pp.length, k2, acc ++ [x], m', rfl, z3, q2, by simp; omega, ?_, by rw [z2]; exact i5⟩) ?_
          . rw [z2]
            have := congrArg List.length p2
            simp only [List.length_append, List.length_cons] at this i4; omega
          . dsimp only
            rw [if_pos rfl, if_pos rfl, Int.toNat_natCast, Int.toNat_natCast]; omega
       by_cases hq : q = s.size
       . rw [if_pos (by omega)]
         exact hJ40 fun c l hc => by have := (drop_next hc).2.1; omega
       . rw [if_neg (by omega)]
         cases hdq : (bl s).drop q with
         | nil => have := List.drop_eq_nil_iff.1 hdq; omega
         | cons c2 r2 =>
          obtain ⟨e1, e2, e3⟩ := drop_next hdq
          refine StrAt_of hdq ?_
          rw [bif_not, bif_dec]
          by_cases h41 : c2.toNat = 41
          . rw [if_pos (by omega)]
            obtain ⟨m', rfl⟩ : ∃ m', m = m' + 1 := ⟨m - 1, by omega⟩
            rw [hdq] at i5
            simp only [rdL, if_pos h41] at i5
            unfold F56_J42
            rw [wrap64 (n := (q : Int) + 1) (by omega) (by omega), show (q : Int) + 1 = (s.size : Int) - (r2.length : Int) by omega]
            exact wkK_of i5
          . rw [if_neg (by omega)]
            exact hJ40 fun c l hc => by rw [hdq] at hc; injection hc with hc _; subst hc; exact h41
     . unfold F56_B26
       dsimp only
       rw [decide_eq_false i1, cond_false]
       unfold F56_J42
       exact wkK_of (i2 ⟨true, ⟨#[]⟩, acc⟩ _ _)
   . rw [if_neg (by omega)]
     rw [if_pos hc] at h
     refine ⟨⟨⟨by dsimp only; omega, by dsimp only; omega, by rw [lim_eq]; exact hs⟩, rfl⟩, ?_⟩
     rw [Int.toNat_natCast, hdr]
     cases ha : atomR (c :: r) with
     | err e =>
      rw [ha] at h
      intro p6
      unfold F56_J8
      exact wkK_nil2 (h ⟨false, ⟨#[]⟩, []⟩ _ _)
     | ok a =>
      rw [ha] at h
      simp only [Res.go]
      unfold F56_J8
      exact wkK_nil2 h
def rw56 : Raw := rwz56 readPre
theorem rw56_all : ∀ n : Nat, (rwz56 fun g => readPre g /\ g.2.2.2.2.1 < (n : Int)).Ok Tryz.prog 56
 | 0 => by
  have key : ∀ (s : ByteArray) (p left e d : Int), readPre (s, p, left, e, d, ()) -> d < 0 -> False := fun s p left e d h h2 => by
   obtain ⟨_, _, _, h3, _⟩ : (0 <= p /\ p <= (s.size : Int) /\ s.size <= 2 * lim) /\ (0 <= left /\ left <= 20000) /\ e = 0 /\ (0 <= d /\ d <= 12) := h
   omega
  rintro ⟨s, p, left, e, d, ⟨⟩⟩ K X ⟨⟨h, h2⟩, _⟩
  exact (key s p left e d h h2).elim
 | n + 1 => by
  have key : ∀ (s : ByteArray) (p left e d : Int) (K X : Kn), readPre (s, p, left, e, d, ()) -> d < ((n + 1 : Nat) : Int) -> readF (s, p, left, e, d, ()) K X -> FCalls Tryz.prog 56 (argsT S56 L56 (s, p, left, e, d, ())) (storeT S56 O56 L56 (s, p, left, e, d, ())) K X := fun s p left e d K X h m hF => by
   obtain ⟨⟨a1, a2, a3⟩, ⟨b1, b2⟩, c, e1, e2⟩ : (0 <= p /\ p <= (s.size : Int) /\ s.size <= 2 * lim) /\ (0 <= left /\ left <= 20000) /\ e = 0 /\ (0 <= d /\ d <= 12) := h
   obtain ⟨p, rfl⟩ := Int.eq_ofNat_of_zero_le a1
   obtain ⟨d, rfl⟩ := Int.eq_ofNat_of_zero_le e1
   subst c
   obtain ⟨k, rfl⟩ : ∃ k : Nat, left = 20000 - (k : Int) := ⟨(20000 - left).toNat, by omega⟩
   rw [lim_eq] at a3
   have hz : ∀ q k' : Nat, q <= s.size -> k' <= 20000 -> 1 <= d -> ((0 <= (q : Int) /\ (q : Int) <= (s.size : Int) /\ s.size <= 2 * lim) /\ (0 <= 20000 - (k' : Int) /\ 20000 - (k' : Int) <= 20000) /\ (0 : Int) = 0 /\ (0 <= (d : Int) - 1 /\ (d : Int) - 1 <= 12)) /\ (d : Int) - 1 < (n : Int) := fun q k' q1 q2 q3 => by rw [lim_eq]; omega
   exact FCalls.weak (F56_ok _ (rw56_all n) _ _ X (F56_is (X := X) (by omega) a3 (by omega) (by omega) hz hF))
  rintro ⟨s, p, left, e, d, ⟨⟩⟩ K X ⟨⟨h, m⟩, hF⟩
  exact key s p left e d K X h m hF
theorem rw56_ok : rw56.Ok Tryz.prog 56 := fun g K X h => rw56_all (g.2.2.2.2.1.toNat + 1) g K X ⟨⟨h.1, by
 have key : ∀ (s : ByteArray) (p left e d : Int), readPre (s, p, left, e, d, ()) -> d < ((d.toNat + 1 : Nat) : Int) := fun s p left e d h => by
  obtain ⟨_, _, _, h3, _⟩ : (0 <= p /\ p <= (s.size : Int) /\ s.size <= 2 * lim) /\ (0 <= left /\ left <= 20000) /\ e = 0 /\ (0 <= d /\ d <= 12) := h
  omega
 obtain ⟨s, p, left, e, d, ⟨⟩⟩ := g
 exact key s p left e d h.1⟩, h.2⟩
theorem F54_is {Z : prodL L54 -> Prop} {s : ByteArray} {p k d : Nat} {K X : Kn} (hp : p <= s.size) (hs : s.size <= 2147483648) (hk : k <= 20000) (hd : d <= 12)
  (hZ : ∀ q k' : Nat, q <= s.size -> k' <= 20000 -> 1 <= d -> Z (13 - ((d - 1 : Nat) : Int), s, (q : Int), (k' : Int), ())) (h : sexpF (13 - (d : Int), s, (p : Int), (k : Int), ()) K X) : F54 Z (13 - (d : Int), s, (p : Int), (k : Int), ()) (wkK K) X := by
 unfold sexpF at h
 dsimp only [Lf.ty, prodL] at h
 rw [Int.toNat_natCast, Int.toNat_natCast, show (13 - (13 - (d : Int))).toNat = d by omega] at h
 have hl := bl_len s
 have hpre : ∀ q : Nat, q <= s.size -> ∀ n : Int, nextPre (s, (q : Int), n, ()) := fun q hq n => ⟨by dsimp only; omega, by dsimp only; omega, by rw [lim_eq]; exact hs⟩
 unfold F54
 dsimp only [Lf.ty, prodL]
 refine ⟨hpre p hp _, ?_⟩
 rw [Int.toNat_natCast]
 cases hdr : (bl s).drop p with
 | nil =>
  rw [hdr, show rdS d k [] = .err 11 by cases d <;> rfl] at h
  exact h _ _
 | cons c r =>
  obtain ⟨d1, d2, d3⟩ := drop_next hdr
  rw [hdr] at h
  show bif decide (20000 < IntKind.i64.wrap ((k : Int) + 1)) then _ else _
  have w1 : IntKind.i64.wrap ((k : Int) + 1) = ((k + 1 : Nat) : Int) := by rw [wrap64 (by omega) (by omega)]; omega
  have w2 : IntKind.i64.wrap ((p : Int) + 1) = ((p + 1 : Nat) : Int) := by rw [wrap64 (by omega) (by omega)]; omega
  rw [w1, bif_dec]
  cases d with
  | zero =>
   have hX : ∀ a b : Int, X (.ic 93 (.ag [.int .i64 12])) [some (.cells [.str s, .int .i64 a, .int .i64 b])] := h
   split
   . unfold F54_J4; exact hX _ _
   . unfold F54_J4; rw [decide_eq_true (by omega), cond_true]; exact hX _ _
  | succ d =>
   simp only [rdS] at h
   by_cases hk1 : 20000 < k + 1
   . rw [if_pos hk1] at h
     rw [if_pos (by omega)]
     unfold F54_J4
     exact h _ _
   rw [if_neg hk1] at h
   rw [if_neg (by omega), decide_eq_false (by omega)]
   unfold F54_J4
   rw [cond_false, bif_not, bif_dec]
   by_cases hc : c.toNat = 40
   . rw [if_pos (by omega), w2]
     rw [if_neg (by simpa using hc)] at h
     unfold F54_L17
     let Kok (a : List Sx × Nat × List UInt8) : Prop := K (.ag [.bool true, .str (⟨#[]⟩ : ByteArray), .sl false .sexp a.1]) [some (.cells [.str s, .int .i64 ((s.size : Int) - (a.2.2.length : Int)), .int .i64 (a.2.1 : Int)])]
     let Kerr (e : Int) : Prop := ∀ (p m : Int), X (.ic 93 (.ag [.int .i64 e])) [some (.cells [.str s, .int .i64 p, .int .i64 m])]
     have h0 : Res.go (rdL (rdS d) (r.length + 1) (k + 1) r []) Kok Kerr := by
      cases hx : rdL (rdS d) (r.length + 1) (k + 1) r [] with
      | ok a => rw [hx] at h; exact h
      | err e => rw [hx] at h; exact h
     refine LoopW.of (fun g => ∃ (q k' : Nat) (acc : List Sx) (m : Nat), g = (13 - ((d + 1 : Nat) : Int), s, (q : Int), (k' : Int), false, (⟨#[]⟩ : ByteArray), true, (⟨#[]⟩ : ByteArray), acc, ()) /\ q <= s.size /\ k' <= 20000 /\ acc.length <= q /\ ((bl s).drop q).length < m /\ Res.go (rdL (rdS d) m k' ((bl s).drop q) acc) Kok Kerr)
      (fun g => s.size - g.2.2.1.toNat) ?_ ⟨p + 1, k + 1, [], r.length + 1, rfl, by omega, by omega, by simp, by rw [d1]; omega, by rw [d1]; exact h0⟩
     rintro g ⟨q, k', acc, m, rfl, i1, i2, i3, i4, i5⟩ W hW
     unfold F54_B17
     dsimp only
     refine ⟨hpre q i1 _, ?_⟩
     rw [Int.toNat_natCast]
     obtain ⟨m', rfl⟩ : ∃ m', m = m' + 1 := ⟨m - 1, by omega⟩
     cases hdq : (bl s).drop q with
     | nil =>
      rw [hdq] at i5
      exact i5 _ _
     | cons c2 r2 =>
      obtain ⟨e1, e2, e3⟩ := drop_next hdq
      rw [hdq] at i5 i4
      show bif !decide ((c2.toNat : Int) = 41) then _ else _
      rw [bif_not, bif_dec]
      by_cases h41 : c2.toNat = 41
      . rw [if_pos (by omega)]
        simp only [rdL, if_pos h41] at i5
        rw [wrap64 (n := (q : Int) + 1) (by omega) (by omega), show (q : Int) + 1 = (s.size : Int) - (r2.length : Int) by omega]
        exact wkK_of i5
      . rw [if_neg (by omega)]
        simp only [rdL, if_neg h41] at i5
        have w3 : IntKind.i64.wrap (13 - ((d + 1 : Nat) : Int) + 1) = 13 - (d : Int) := by rw [wrap64 (by omega) (by omega)]; omega
        rw [w3]
        have hz := hZ q k' i1 i2 (by omega)
        rw [show d + 1 - 1 = d from rfl] at hz
        refine ⟨hz, ?_⟩
        rw [Int.toNat_natCast, show (13 - (13 - (d : Int))).toNat = d by omega]
        obtain ⟨s1, s2⟩ := rdS_sound d k' (c2 :: r2) i2
        cases hx : rdS d k' (c2 :: r2) with
        | err e =>
         rw [hx] at i5
         exact fun a b _ => i5 a b
        | ok a =>
         obtain ⟨x, k2, l2⟩ := a
         rw [hx] at i5
         obtain ⟨⟨pp, p1, p2, p3⟩, q1, q2⟩ := s1 x k2 l2 hx
         have hppl : 0 < pp.length := List.length_pos_iff.2 p1
         obtain ⟨z1, z2, z3⟩ := drop_rest (hdq.trans p2) i1
         show Room _ _ _
         refine ⟨by simp only [List.length_cons, List.length_nil]; omega, ?_⟩
         rw [Sx.eta]
         simp only
         rw [z1]
         refine hW _ ⟨q + pp.length, k2, acc ++ [x], m', rfl, z3, q2, by simp; omega, ?_, by rw [z2]; exact i5⟩ ?_
         . rw [z2]
           have := congrArg List.length p2
           simp only [List.length_append, List.length_cons] at this i4; omega
         . dsimp only
           rw [Int.toNat_natCast, Int.toNat_natCast]; omega
   . rw [if_neg (by omega)]
     rw [if_pos hc] at h
     refine ⟨hpre p hp _, ?_⟩
     rw [Int.toNat_natCast, hdr]
     unfold atomR atomG at h
     cases ha : numR true 0 (c :: r) with
     | err e =>
      rw [ha] at h
      exact fun a => h _ _
     | ok a =>
      obtain ⟨n, l2⟩ := a
      rw [ha] at h
      obtain ⟨⟨pp, p1, p2⟩, hn⟩ := numR_ok _ _ _ _ _ ha
      obtain ⟨z1, z2, z3⟩ := drop_rest (hdr.trans p2) hp
      have hz2 := congrArg List.length z2
      rw [List.length_drop] at hz2
      have hn := hn (by omega)
      simp only at h
      show bif decide (IntKind.i64.wrap ((s.size : Int) - ((s.size : Int) - (l2.length : Int))) < (n : Int)) then _ else _
      rw [z1, bif_dec, wrap64 (n := (s.size : Int) - ((p + pp.length : Nat) : Int)) (by omega) (by omega), wrap64 (n := ((p + pp.length : Nat) : Int) + (n : Int)) (by omega) (by omega), wrap64 (by omega) (by omega)]
      by_cases hlt : l2.length < n
      . rw [if_pos hlt] at h
        rw [if_pos (by omega)]
        exact h _ _
      . rw [if_neg hlt] at h
        rw [if_neg (by omega)]
        refine ⟨by omega, by omega, by omega, wkK_nil1 ?_⟩
        have e1 : s.extract (((p + pp.length : Nat) : Int) + (n : Int) - (n : Int)).toNat (((p + pp.length : Nat) : Int) + (n : Int)).toNat = ⟨(l2.take n).toArray⟩ := by
         apply bl_inj
         rw [show bl ⟨(l2.take n).toArray⟩ = l2.take n from bl_mk _, bl_extract, show (((p + pp.length : Nat) : Int) + (n : Int) - (n : Int)).toNat = p + pp.length by omega, show (((p + pp.length : Nat) : Int) + (n : Int)).toNat = p + pp.length + n by omega, List.drop_take, z2, show p + pp.length + n - (p + pp.length) = n by omega]
        have e2 : ((p + pp.length : Nat) : Int) + (n : Int) = (s.size : Int) - ((l2.drop n).length : Int) := by rw [List.length_drop]; omega
        rw [e1, e2]
        exact h
def rw54 : Raw := rwz54 sexpPre
theorem rw54_all : ∀ n : Nat, (rwz54 fun g => sexpPre g /\ 13 - g.1 < (n : Int)).Ok Tryz.prog 54
 | 0 => by
  have key : ∀ (lv : Int) (s : ByteArray) (p k : Int), sexpPre (lv, s, p, k, ()) -> 13 - lv < 0 -> False := fun lv s p k h h2 => by
   obtain ⟨⟨_, _⟩, _⟩ : (1 <= lv /\ lv <= 13) /\ (0 <= p /\ p <= (s.size : Int) /\ s.size <= 2 * lim) /\ (0 <= k /\ k <= 20000) := h
   omega
  rintro ⟨lv, s, p, k, ⟨⟩⟩ K X ⟨⟨h, h2⟩, _⟩
  exact (key lv s p k h h2).elim
 | n + 1 => by
  have key : ∀ (lv : Int) (s : ByteArray) (p k : Int) (K X : Kn), sexpPre (lv, s, p, k, ()) -> 13 - lv < ((n + 1 : Nat) : Int) -> sexpF (lv, s, p, k, ()) K X -> FCalls Tryz.prog 54 (argsT S54 L54 (lv, s, p, k, ())) (storeT S54 O54 L54 (lv, s, p, k, ())) K X := fun lv s p k K X h m hF => by
   obtain ⟨⟨e1, e2⟩, ⟨a1, a2, a3⟩, b1, b2⟩ : (1 <= lv /\ lv <= 13) /\ (0 <= p /\ p <= (s.size : Int) /\ s.size <= 2 * lim) /\ (0 <= k /\ k <= 20000) := h
   obtain ⟨p, rfl⟩ := Int.eq_ofNat_of_zero_le a1
   obtain ⟨k, rfl⟩ := Int.eq_ofNat_of_zero_le b1
   obtain ⟨d, rfl⟩ : ∃ d : Nat, lv = 13 - (d : Int) := ⟨(13 - lv).toNat, by omega⟩
   rw [lim_eq] at a3
   have hz : ∀ q k' : Nat, q <= s.size -> k' <= 20000 -> 1 <= d -> ((1 <= 13 - ((d - 1 : Nat) : Int) /\ 13 - ((d - 1 : Nat) : Int) <= 13) /\ (0 <= (q : Int) /\ (q : Int) <= (s.size : Int) /\ s.size <= 2 * lim) /\ (0 <= (k' : Int) /\ (k' : Int) <= 20000)) /\ 13 - (13 - ((d - 1 : Nat) : Int)) < (n : Int) := fun q k' q1 q2 q3 => by rw [lim_eq]; omega
   exact FCalls.weak (F54_ok _ (rw54_all n) _ _ X (F54_is (X := X) (by omega) a3 (by omega) (by omega) hz hF))
  rintro ⟨lv, s, p, k, ⟨⟩⟩ K X ⟨⟨h, m⟩, hF⟩
  exact key lv s p k K X h m hF
theorem rw54_ok : rw54.Ok Tryz.prog 54 := fun g K X h => rw54_all ((13 - g.1).toNat + 1) g K X ⟨⟨h.1, by
 have key : ∀ (lv : Int) (s : ByteArray) (p k : Int), sexpPre (lv, s, p, k, ()) -> 13 - lv < (((13 - lv).toNat + 1 : Nat) : Int) := fun lv s p k h => by
  obtain ⟨⟨_, _⟩, _⟩ : (1 <= lv /\ lv <= 13) /\ (0 <= p /\ p <= (s.size : Int) /\ s.size <= 2 * lim) /\ (0 <= k /\ k <= 20000) := h
  omega
 obtain ⟨lv, s, p, k, ⟨⟩⟩ := g
 exact key lv s p k h.1⟩, h.2⟩
end Go.Proofs.YtoclmkbjgmgekaaGreatDoor
namespace Go.Proofs.YtoclmkbjgmgekaaGreatDoor
open Go.RowKit Go.Shelf
def laysItoa_ren : Go.Shelf.Ren := ⟨fun | 171 => 52 | 243 => 75 | 246 => 98 | 283 => 107 | 284 => 108 | 285 => 109 | 286 => 110 | 129 => 120 | 317 => 119 | 318 => 121 | 319 => 122 | 320 => 123 | 337 => 128 | 338 => 129 | n => n, fun | 3 => 3 | 9 => 9 | 2 => 2 | 4 => 4 | 171 => 144 | 0 => 0 | 53 => 145 | 37 => 101 | 5 => 5 | 173 => 148 | 212 => 161 | 51 => 162 | 20 => 20 | 213 => 163 | 46 => 164 | 232 => 65 | 233 => 178 | n => n, fun | 17 => 0 | 18 => 3 | 19 => 4 | n => n⟩
theorem laysItoa : Go.Proofs.LaysM.n171 Tryz.prog laysItoa_ren := {
 mixed := by kernel_rfl
 f129 := Tryz.func120.trans (congrArg some (by kernel_rfl))
 f171 := Tryz.func52.trans (congrArg some (by kernel_rfl))
 f243 := Tryz.func75.trans (congrArg some (by kernel_rfl))
 f246 := Tryz.func98.trans (congrArg some (by kernel_rfl))
 f283 := Tryz.func107.trans (congrArg some (by kernel_rfl))
 f284 := Tryz.func108.trans (congrArg some (by kernel_rfl))
 f285 := Tryz.func109.trans (congrArg some (by kernel_rfl))
 f286 := Tryz.func110.trans (congrArg some (by kernel_rfl))
 f317 := Tryz.func119.trans (congrArg some (by kernel_rfl))
 f318 := Tryz.func121.trans (congrArg some (by kernel_rfl))
 f319 := Tryz.func122.trans (congrArg some (by kernel_rfl))
 f320 := Tryz.func123.trans (congrArg some (by kernel_rfl))
 f337 := Tryz.func128.trans (congrArg some (by kernel_rfl))
 f338 := Tryz.func129.trans (congrArg some (by kernel_rfl))
 t0 := Tryz.underlying0
 a0 := Tryz.isAgg0
 z0 := Tryz.sizeOf0
 v0 := Tryz.zeroValue0
 t2 := Tryz.underlying2
 a2 := Tryz.isAgg2
 z2 := Tryz.sizeOf2
 v2 := Tryz.zeroValue2
 t3 := Tryz.underlying3
 a3 := Tryz.isAgg3
 z3 := Tryz.sizeOf3
 v3 := Tryz.zeroValue3
 t4 := Tryz.underlying4
 a4 := Tryz.isAgg4
 z4 := Tryz.sizeOf4
 v4 := Tryz.zeroValue4
 t5 := Tryz.underlying5
 a5 := Tryz.isAgg5
 z5 := Tryz.sizeOf5
 v5 := Tryz.zeroValue5
 t9 := Tryz.underlying9
 a9 := Tryz.isAgg9
 z9 := Tryz.sizeOf9
 v9 := Tryz.zeroValue9
 t20 := Tryz.underlying20
 a20 := Tryz.isAgg20
 z20 := Tryz.sizeOf20
 v20 := Tryz.zeroValue20
 t37 := Tryz.underlying101
 a37 := Tryz.isAgg101
 z37 := Tryz.sizeOf101
 v37 := Tryz.zeroValue101
 t46 := Tryz.underlying164
 a46 := Tryz.isAgg164
 z46 := Tryz.sizeOf164
 v46 := Tryz.zeroValue164
 t51 := Tryz.underlying162
 a51 := Tryz.isAgg162
 z51 := Tryz.sizeOf162
 v51 := Tryz.zeroValue162
 t53 := Tryz.underlying145
 a53 := Tryz.isAgg145
 z53 := Tryz.sizeOf145
 v53 := Tryz.zeroValue145
 t171 := Tryz.underlying144
 a171 := Tryz.isAgg144
 z171 := Tryz.sizeOf144
 v171 := Tryz.zeroValue144
 t173 := Tryz.underlying148
 a173 := Tryz.isAgg148
 z173 := Tryz.sizeOf148
 v173 := Tryz.zeroValue148
 t212 := Tryz.underlying161
 a212 := Tryz.isAgg161
 z212 := Tryz.sizeOf161
 v212 := Tryz.zeroValue161
 t213 := Tryz.underlying163
 a213 := Tryz.isAgg163
 z213 := Tryz.sizeOf163
 t232 := Tryz.underlying65
 a232 := Tryz.isAgg65
 z232 := Tryz.sizeOf65
 v232 := Tryz.zeroValue65
 t233 := Tryz.underlying178
 a233 := Tryz.isAgg178
 z233 := Tryz.sizeOf178
 v233 := Tryz.zeroValue178
 g17 := by kernel_rfl
 g18 := by kernel_rfl
 g19 := by kernel_rfl
 i0 := by kernel_rfl
 i2 := by kernel_rfl
 i3 := by kernel_rfl
 i4 := by kernel_rfl
 i5 := by kernel_rfl
 i9 := by kernel_rfl
 i20 := by kernel_rfl
 i37 := by kernel_rfl
 i46 := by kernel_rfl
 i51 := by kernel_rfl
 i53 := by kernel_rfl
 i171 := by kernel_rfl
 i173 := by kernel_rfl
 i212 := by kernel_rfl
 i232 := by kernel_rfl
 i233 := by kernel_rfl
 m17 := by kernel_rfl
 m18 := by kernel_rfl
 m19 := by kernel_rfl }
def laysAtoi_ren : Go.Shelf.Ren := ⟨fun | 172 => 79 | 244 => 100 | 245 => 101 | 247 => 112 | 279 => 113 | 280 => 114 | 281 => 115 | 282 => 116 | 287 => 125 | 316 => 126 | 171 => 52 | 205 => 127 | 321 => 130 | 322 => 131 | 243 => 75 | 246 => 98 | 283 => 107 | 284 => 108 | 285 => 109 | 286 => 110 | 129 => 120 | 317 => 119 | 318 => 121 | 319 => 122 | 320 => 123 | 337 => 128 | 338 => 129 | n => n, fun | 9 => 9 | 3 => 3 | 75 => 122 | 76 => 123 | 4 => 4 | 5 => 5 | 167 => 150 | 37 => 101 | 0 => 0 | 85 => 151 | 2 => 2 | 168 => 153 | 53 => 145 | 175 => 167 | 46 => 164 | 210 => 171 | 127 => 137 | 145 => 177 | 143 => 175 | 21 => 21 | 171 => 144 | 173 => 148 | 212 => 161 | 51 => 162 | 20 => 20 | 213 => 163 | 232 => 65 | 233 => 178 | 80 => 112 | n => n, fun | 15 => 1 | 16 => 2 | 17 => 0 | 18 => 3 | 19 => 4 | n => n⟩
theorem laysAtoi : Go.Proofs.LaysC.n172 Tryz.prog laysAtoi_ren := {
 mixed := by kernel_rfl
 f129 := Tryz.func120.trans (congrArg some (by kernel_rfl))
 f171 := Tryz.func52.trans (congrArg some (by kernel_rfl))
 f172 := Tryz.func79.trans (congrArg some (by kernel_rfl))
 f205 := Tryz.func127.trans (congrArg some (by kernel_rfl))
 f243 := Tryz.func75.trans (congrArg some (by kernel_rfl))
 f244 := Tryz.func100.trans (congrArg some (by kernel_rfl))
 f245 := Tryz.func101.trans (congrArg some (by kernel_rfl))
 f246 := Tryz.func98.trans (congrArg some (by kernel_rfl))
 f247 := Tryz.func112.trans (congrArg some (by kernel_rfl))
 f279 := Tryz.func113.trans (congrArg some (by kernel_rfl))
 f280 := Tryz.func114.trans (congrArg some (by kernel_rfl))
 f281 := Tryz.func115.trans (congrArg some (by kernel_rfl))
 f282 := Tryz.func116.trans (congrArg some (by kernel_rfl))
 f283 := Tryz.func107.trans (congrArg some (by kernel_rfl))
 f284 := Tryz.func108.trans (congrArg some (by kernel_rfl))
 f285 := Tryz.func109.trans (congrArg some (by kernel_rfl))
 f286 := Tryz.func110.trans (congrArg some (by kernel_rfl))
 f287 := Tryz.func125.trans (congrArg some (by kernel_rfl))
 f316 := Tryz.func126.trans (congrArg some (by kernel_rfl))
 f317 := Tryz.func119.trans (congrArg some (by kernel_rfl))
 f318 := Tryz.func121.trans (congrArg some (by kernel_rfl))
 f319 := Tryz.func122.trans (congrArg some (by kernel_rfl))
 f320 := Tryz.func123.trans (congrArg some (by kernel_rfl))
 f321 := Tryz.func130.trans (congrArg some (by kernel_rfl))
 f322 := Tryz.func131.trans (congrArg some (by kernel_rfl))
 f337 := Tryz.func128.trans (congrArg some (by kernel_rfl))
 f338 := Tryz.func129.trans (congrArg some (by kernel_rfl))
 t0 := Tryz.underlying0
 a0 := Tryz.isAgg0
 z0 := Tryz.sizeOf0
 v0 := Tryz.zeroValue0
 t2 := Tryz.underlying2
 a2 := Tryz.isAgg2
 z2 := Tryz.sizeOf2
 v2 := Tryz.zeroValue2
 t3 := Tryz.underlying3
 a3 := Tryz.isAgg3
 z3 := Tryz.sizeOf3
 v3 := Tryz.zeroValue3
 t4 := Tryz.underlying4
 a4 := Tryz.isAgg4
 z4 := Tryz.sizeOf4
 v4 := Tryz.zeroValue4
 t5 := Tryz.underlying5
 a5 := Tryz.isAgg5
 z5 := Tryz.sizeOf5
 v5 := Tryz.zeroValue5
 t9 := Tryz.underlying9
 a9 := Tryz.isAgg9
 z9 := Tryz.sizeOf9
 v9 := Tryz.zeroValue9
 t20 := Tryz.underlying20
 a20 := Tryz.isAgg20
 z20 := Tryz.sizeOf20
 v20 := Tryz.zeroValue20
 t21 := Tryz.underlying21
 a21 := Tryz.isAgg21
 z21 := Tryz.sizeOf21
 v21 := Tryz.zeroValue21
 t37 := Tryz.underlying101
 a37 := Tryz.isAgg101
 z37 := Tryz.sizeOf101
 v37 := Tryz.zeroValue101
 t46 := Tryz.underlying164
 a46 := Tryz.isAgg164
 z46 := Tryz.sizeOf164
 v46 := Tryz.zeroValue164
 t51 := Tryz.underlying162
 a51 := Tryz.isAgg162
 z51 := Tryz.sizeOf162
 v51 := Tryz.zeroValue162
 t53 := Tryz.underlying145
 a53 := Tryz.isAgg145
 z53 := Tryz.sizeOf145
 v53 := Tryz.zeroValue145
 t75 := Tryz.underlying122
 a75 := Tryz.isAgg122
 z75 := Tryz.sizeOf122
 v75 := Tryz.zeroValue122
 t76 := Tryz.underlying123
 a76 := Tryz.isAgg123
 z76 := Tryz.sizeOf123
 v76 := Tryz.zeroValue123
 t85 := Tryz.underlying151
 a85 := Tryz.isAgg151
 z85 := Tryz.sizeOf151
 v85 := Tryz.zeroValue151
 t127 := Tryz.underlying137
 a127 := Tryz.isAgg137
 z127 := Tryz.sizeOf137
 v127 := Tryz.zeroValue137
 t143 := Tryz.underlying175
 a143 := Tryz.isAgg175
 z143 := Tryz.sizeOf175
 v143 := Tryz.zeroValue175
 t145 := Tryz.underlying177
 a145 := Tryz.isAgg177
 z145 := Tryz.sizeOf177
 v145 := Tryz.zeroValue177
 t167 := Tryz.underlying150
 a167 := Tryz.isAgg150
 z167 := Tryz.sizeOf150
 v167 := Tryz.zeroValue150
 t168 := Tryz.underlying153
 a168 := Tryz.isAgg153
 z168 := Tryz.sizeOf153
 v168 := Tryz.zeroValue153
 t171 := Tryz.underlying144
 a171 := Tryz.isAgg144
 z171 := Tryz.sizeOf144
 v171 := Tryz.zeroValue144
 t173 := Tryz.underlying148
 a173 := Tryz.isAgg148
 z173 := Tryz.sizeOf148
 v173 := Tryz.zeroValue148
 t175 := Tryz.underlying167
 a175 := Tryz.isAgg167
 z175 := Tryz.sizeOf167
 v175 := Tryz.zeroValue167
 t210 := Tryz.underlying171
 a210 := Tryz.isAgg171
 z210 := Tryz.sizeOf171
 v210 := Tryz.zeroValue171
 t212 := Tryz.underlying161
 a212 := Tryz.isAgg161
 z212 := Tryz.sizeOf161
 v212 := Tryz.zeroValue161
 t213 := Tryz.underlying163
 a213 := Tryz.isAgg163
 z213 := Tryz.sizeOf163
 t232 := Tryz.underlying65
 a232 := Tryz.isAgg65
 z232 := Tryz.sizeOf65
 v232 := Tryz.zeroValue65
 t233 := Tryz.underlying178
 a233 := Tryz.isAgg178
 z233 := Tryz.sizeOf178
 v233 := Tryz.zeroValue178
 g15 := by kernel_rfl
 g16 := by kernel_rfl
 g17 := by kernel_rfl
 g18 := by kernel_rfl
 g19 := by kernel_rfl
 t80 := Tryz.underlying112
 a80 := Tryz.isAgg112
 z80 := Tryz.sizeOf112
 v80 := Tryz.zeroValue112
 i0 := by kernel_rfl
 i2 := by kernel_rfl
 i3 := by kernel_rfl
 i4 := by kernel_rfl
 i5 := by kernel_rfl
 i9 := by kernel_rfl
 i20 := by kernel_rfl
 i21 := by kernel_rfl
 i37 := by kernel_rfl
 i46 := by kernel_rfl
 i51 := by kernel_rfl
 i53 := by kernel_rfl
 i75 := by kernel_rfl
 i76 := by kernel_rfl
 i80 := by kernel_rfl
 i85 := by kernel_rfl
 i127 := by kernel_rfl
 i143 := by kernel_rfl
 i145 := by kernel_rfl
 i167 := by kernel_rfl
 i168 := by kernel_rfl
 i171 := by kernel_rfl
 i173 := by kernel_rfl
 i175 := by kernel_rfl
 i210 := by kernel_rfl
 i212 := by kernel_rfl
 i232 := by kernel_rfl
 i233 := by kernel_rfl
 m15 := by kernel_rfl
 m16 := by kernel_rfl
 m17 := by kernel_rfl
 m18 := by kernel_rfl
 m19 := by kernel_rfl
 c0 := by kernel_rfl
 c2 := by kernel_rfl
 c3 := by kernel_rfl
 c4 := by kernel_rfl
 c5 := by kernel_rfl
 c9 := by kernel_rfl
 c20 := by kernel_rfl
 c21 := by kernel_rfl
 c37 := by kernel_rfl
 c46 := by kernel_rfl
 c51 := by kernel_rfl
 c53 := by kernel_rfl
 c75 := by kernel_rfl
 c76 := by kernel_rfl
 c80 := by kernel_rfl
 c85 := by kernel_rfl
 c127 := by kernel_rfl
 c143 := by kernel_rfl
 c145 := by kernel_rfl
 c167 := by kernel_rfl
 c168 := by kernel_rfl
 c171 := by kernel_rfl
 c173 := by kernel_rfl
 c175 := by kernel_rfl
 c210 := by kernel_rfl
 c212 := by kernel_rfl
 c213 := by kernel_rfl
 c232 := by kernel_rfl
 c233 := by kernel_rfl }
theorem good_ext {P : Program} {g : G P} {st : St} {w w' : World} (hg : Good g st w) (h1 : w'.os = w.os) (h2 : w'.tape = w.tape) (h3 : w'.output = w.output) (hsz : w.heap.size <= w'.heap.size) (hb : ∀ b, b < w.heap.size -> w'.heap[b]? = w.heap[b]?) :
  Good g st w' /\ ∀ b0, Step b0 g st w g st w' := by
 refine ⟨⟨fun b cs h => ?_, fun k o h => ?_, hg.inj, hg.old, fun b o h => hg.fx_keep (fun b hb' _ => hb b hb') h, fun b h => hg.dm_keep (fun b hb' _ => hb b hb') h, hg.laid⟩, fun b0 => ⟨h1, h2, h3, hsz, fun b hb' _ => hb b hb', fun _ _ h => h, fun _ h => .inl h, fun _ _ h => .inl h, fun _ _ => Kept.refl, fun _ _ => Fixd.refl, fun _ _ h => h, fun _ h => h, fun _ h => .inl h⟩⟩
 . obtain ⟨blk, E, fr, p1, p2⟩ := hg.ro b cs h
   exact ⟨blk, E, fr, by rw [hb b (hg.lt_ro h)]; exact p1, p2⟩
 . obtain ⟨oi, p1, p2, p3⟩ := hg.obj k o h
   refine ⟨oi, p1, p2, ?_⟩
   rcases p3 with p3 | ⟨p3, blk, E, fr, p4, p5, p6, p7⟩
   . exact .inl p3
   . exact .inr ⟨p3, blk, E, fr, by rw [hb _ (view_lt p4)]; exact p4, p5, p6, p7⟩
theorem good_below {P : Program} {g : G P} {st : St} {w w' : World} (hg : Good g st w) (h : Below w.heap.size w w') : Good g st w' /\ ∀ b0, Step b0 g st w g st w' :=
 good_ext hg h.os h.tape h.output h.size h.block
theorem tab_is {g : G Tryz.prog} {st : St} {w : World} (hg : Good g st w) : Lib.TabIs Tryz.prog w "internal/strconv.uint64pow10" .u64 Lib.pow10Tab := by
 obtain ⟨⟨h1, h2⟩, _⟩ := hg.laid
 obtain ⟨blk, E, fr, p1, p2⟩ := hg.ro _ _ h1
 obtain ⟨blk', E', fr', q1, q2⟩ := hg.ro _ _ h2
 rw [p1] at q1
 simp only [Option.some.injEq, Obj.cells.injEq] at q1
 obtain ⟨rfl, rfl, rfl⟩ := q1
 have hsz : blk.size = 20 := q2.ex 20 rfl
 unfold Lib.TabIs World.var?
 rw [show Tryz.prog.globalNamed "internal/strconv.uint64pow10" = some 0 by kernel_rfl]
 simp only [Option.bind_some, p1, Option.some.injEq]
 apply Array.ext_getElem?
 intro j
 by_cases hj : j < 20
 . obtain ⟨x, x1, _, x3⟩ := p2.at_ j (T.int .u64 ((10 ^ j : Nat) : Int)) (by simp [pow10s, hj]) rfl
   cases x3
   rw [x1]
   simp [Lib.pow10Tab, hj]
 . rw [Array.getElem?_eq_none (by omega), Array.getElem?_eq_none (by simp [Lib.pow10Tab]; omega)]
theorem rl_one {P : Program} {g : G P} {u : T} {args : Array Value} (h : RL g [u] args) : ∃ x, args = #[x] /\ R g u x := by
 have hl := h.len
 obtain ⟨x, rfl⟩ : ∃ x, args = #[x] := by
  have : args.size = 1 := by simpa using hl.symm
  exact ⟨args[0], Array.ext (by simpa using this) fun i h1 h2 => by
   have : i = 0 := by simp at h2; omega
   subst this; rfl⟩
 exact ⟨x, rfl, h.val 0 u x rfl rfl⟩
def intP (n : Int) : Prop := -9223372036854775808 <= n /\ n <= 9223372036854775807
def sp52 : Sp := ⟨[.leaf], [.int .i64], fun g => intP g.1, fun g => .str (decB g.1), fun _ => none⟩
theorem sp52_ok : sp52.Ok Tryz.prog 52 true :=
 ⟨by
  rintro ⟨n, ⟨⟩⟩ K X hp hK g w hg
  obtain ⟨h1, h2⟩ : -9223372036854775808 <= n /\ n <= 9223372036854775807 := hp
  refine Atc.of (by kernel_rfl) fun args hr => ?_
  obtain ⟨x, rfl, hx⟩ := rl_one hr
  cases hx
  refine (Any.strconv_Itoa laysItoa n h1 h2 w (tab_is hg)).mono ?_
  rintro e w' ⟨rfl, k, os, rfl⟩
  obtain ⟨q1, q2⟩ := good_ext (w' := Sort.grow (w.drewN k) os) hg rfl rfl rfl (by simp [Sort.grow, World.drewN]) (fun b hb => by simp [Sort.grow, World.drewN, Array.getElem?_append_left hb])
  exact ⟨g, [], q1, q2 _, _, hK, .str _⟩, fun _ _ _ => rfl, fun _ => rfl, fun _ _ => ⟨rfl, rfl⟩⟩
def atoiR (s : ByteArray) : Res Int Int := match Lib.atoiAll (bl s) with
 | .ok v => .ok v
 | .range => .err (Lib.atoiSat (bl s))
 | _ => .err 0
def atoiPre (g : prodL [.str]) : Prop := g.1.size <= 2147483648 /\ ((∃ v, Lib.atoiAll (bl g.1) = .ok v) ∨ Lib.atoiAll (bl g.1) = .range)
def atoiF (g : prodL [.str]) (K _ : Kn) : Prop :=
 Res.go (atoiR g.1) (fun v => K (.tu [.int .i64 v, .cst .nilIface]) []) (fun v => K (.tu [.int .i64 v, .ic 153 .undef]) [])
def rw79 : Raw := ⟨[.leaf], [], [.str], 0, fun g K X => atoiPre g /\ atoiF g K X⟩
theorem rw79_ok : rw79.Ok Tryz.prog 79 := by
 rintro ⟨s, ⟨⟩⟩ K X ⟨⟨h1, h2⟩, h⟩ g w hg
 have h1 : s.size <= 2147483648 := h1
 refine Atc.of (by kernel_rfl) fun args hr => ?_
 obtain ⟨x, rfl, hx⟩ := rl_one hr
 cases hx
 have h : Res.go (atoiR s) (fun v => K (.tu [.int .i64 v, .cst .nilIface]) []) (fun v => K (.tu [.int .i64 v, .ic 153 .undef]) []) := h
 have h2 : (∃ v, Lib.atoiAll (bl s) = .ok v) ∨ Lib.atoiAll (bl s) = .range := h2
 unfold atoiR at h
 rcases h2 with ⟨v, ha⟩ | ha
 . rw [ha] at h
   refine (Any.strconv_Atoi_ok laysAtoi s (by omega) v ha w).mono ?_
   rintro e w' ⟨rfl, hw⟩
   have hb : Below w.heap.size w w' := by
    rcases hw with rfl | ⟨t, rfl⟩
    . exact Below.refl _ _
    . exact Lib.bytesWorld_below _ _ _
   obtain ⟨q1, q2⟩ := good_below hg hb
   refine ⟨g, _, q1, q2 _, _, h, .tu _ _ rfl fun i c x hc hx => ?_⟩
   rcases i with _ | _ | i
   . simp at hc hx; subst hc; subst hx; exact .int _ _
   . simp at hc hx; subst hc; subst hx; exact .cst _
   . simp at hc
 . rw [ha] at h
   obtain ⟨_, te, pe, h4⟩ := hg.laid
   obtain ⟨blk, E, fr, p1, p2⟩ := hg.ro _ _ h4
   obtain ⟨ev, x1, _, x3⟩ := p2.at_ 0 _ rfl rfl
   cases x3
   refine (Any.strconv_Atoi_range laysAtoi s (by omega) ha (.iface te pe) w (by
    show w.cell? ⟨2, 0, none⟩ = _
    simp [World.cell?, p1, x1]) (.inr ⟨te, pe, rfl⟩)).mono ?_
   rintro e w' ⟨N, rfl, _, _, hb⟩
   obtain ⟨q1, q2⟩ := good_below hg hb
   refine ⟨g, _, q1, q2 _, _, h, .tu _ _ rfl fun i c x hc hx => ?_⟩
   rcases i with _ | _ | i
   . simp at hc hx; subst hc; subst hx; exact .int _ _
   . simp at hc hx; subst hc; subst hx; exact .ic _ _ _ (.undef _)
   . simp at hc
end Go.Proofs.YtoclmkbjgmgekaaGreatDoor
namespace Go.Proofs.YtoclmkbjgmgekaaGreatDoor
open Go.RowKit
theorem assert_nil (w : World) : (Instr.typeAssert .nilIface 20 93 true).run Tryz.prog w = .ok (.tuple #[.agg #[.int .i64 0], .bool false]) w := by kernel_rfl
theorem assert_fail (v : Value) (w : World) : (Instr.typeAssert (.iface 93 v) 20 93 true).run Tryz.prog w = .ok (.tuple #[v, .bool true]) w := by kernel_rfl
theorem catch_idle (p q r : Addr) (w : World) :
  CallsDIn (WF none) 0 Tryz.prog 53 #[.pointer (some p), .pointer (some q), .pointer (some r)] .returning w fun e u' w' => e = .returned (.tuple #[]) /\ u' = .returning /\ ∃ x, w' = w.alloc (.cells #[x] 93) := by
 refine callsDIn_of_wpSIn Tryz.func53 (c := codeOf Tryz.f53) rfl trivial fun c₀ cs hu => ?_
 apply wpSIn_seq
 apply wpSIn_region
 simp [wpOpsSIn, go_sem, recoverD, hu, Tryz.ntmps53, Exit.thenS]
 apply wpSIn_seq
 apply wpSIn_region
 simp [wpOpsSIn, go_sem, Exit.thenS, assert_nil]
 apply wpSIn_seq
 apply wpSIn_region
 simp [wpOpsSIn, go_sem, Exit.thenS]
 refine wpSIn_cond (t := false) (by simp [Act.eval]) ?_
 simp only [Bool.false_eq_true, if_false]
 apply wpSIn_seq
 apply wpSIn_region
 simp [wpOpsSIn, go_sem, Exit.thenS]
 refine wpSIn_cond (t := false) (by simp [Act.eval]) ?_
 simp only [Bool.false_eq_true, if_false]
 refine wpSIn_of_wpIn rfl (wpIn_skip ?_)
 cases c₀
 simp_all [bodyPostS, results, Tryz.results53]
 exact ⟨_, rfl⟩
theorem R_list {P : Program} {g : G P} {tmps : Array Value} : ∀ (t : Tm), (∀ p ∈ t, R g p.2 (tmps.getD p.1 Go.undef)) -> ∀ i, R g (get t i) (tmps.getD i Go.undef)
 | [], _, i => .undef _
 | (j, v) :: r, h, i => by
  simp only [get]
  by_cases e : i = j
  . subst e; rw [if_pos rfl]; exact h (i, v) (List.mem_cons_self ..)
  . rw [if_neg e]; exact R_list r (fun p hp => h p (List.mem_cons_of_mem _ hp)) i
theorem good_alloc {P : Program} {g : G P} {st : St} {w : World} (hg : Good g st w) {z : List T} {xs : Array Value} (E : TypeId) (hx : R g (.ag z) (.agg xs)) (hW : cellW z E z.length = true := by rfl) (hM : meHead z = false := by rfl) : ∃ g', Good g' (st ++ [some (.cells z)]) (w.alloc (.cells xs E)) /\ g.le g' /\ (∀ b0, Step b0 g st w g' (st ++ [some (.cells z)]) (w.alloc (.cells xs E))) /\ R g' (.pt st.length 0) (.pointer (some ⟨w.heap.size, 0, none⟩)) := by
 cases hx with
 | ag _ _ h1 h2 h3 =>
  obtain ⟨k1, k2, k3⟩ := good_put (st' := st ++ [some (.cells z)]) (k := st.length) (v := 0) (o' := .cells z) (oi := ⟨w.heap.size, 0, 0⟩) (w' := w.alloc (.cells xs E)) hg push_at (Nat.le_refl _) (by simp) rfl (.inl (no_new hg)) (fun u oi hu => by rw [no_new hg] at hu; cases hu) trivial
   (fun _ => .inl (Nat.le_refl _)) rfl rfl rfl (by simp) (fun b hb _ => Below.heap_alloc w _ b hb) (fun _ => ⟨xs, E, (0, 0), by simp only [isMp, hM]; exact heap_alloc_new w _, fun q _ h => absurd h.2 (Nat.not_lt_zero _), ⟨by simp only [obCells]; omega, fun j u hu => by
    simp only [obCells] at hu
    have hj : j < xs.size := by rw [<- h1]; exact (List.getElem?_eq_some_iff.1 hu).1
    exact ⟨xs[j], by simp [hj], h3 j _ (by simp [hj]), h2 j u _ hu (by simp [hj])⟩⟩, by simp only [obWide]; rw [<- show z.length = xs.size from h1]; exact hW⟩) (fun o ho => by rw [List.getElem?_eq_none (Nat.le_refl _)] at ho; cases ho)
  exact ⟨_, k1, k3, k2, .pt _ 0 ⟨w.heap.size, 0, 0⟩ (by simp [G.set])⟩
@[reducible] def bdS (P : Program) (l : List Deferred) (h : ∀ d ∈ l, ∀ D, d ≠ { target := .collected D, args := #[] }) : Bd P := ⟨l, h, true⟩
def stF (n e : Int) (X : List T) (s : ByteArray) (p m : Int) (l : List T) : St := [some (.cells X), some (.cells [.int .i64 n]), some (.cells [.int .i64 e]), some (.cells [.str s, .int .i64 p, .int .i64 m])] ++ l.map fun v => some (.cells [v])
def t26 (e : Int) : Tm := [(0, .pt 0 0), (1, .pt 1 0), (2, .pt 2 0), (3, .ic 93 (.ag [.int .i64 e])), (4, .pt 4 0)]
def x0 : List T := [.bool false, .str ⟨#[]⟩, .nil]
def thenOf (c : Code) : Code := match c with | .seq _ (.seq _ (.seq _ (.cond _ r _))) => r | c => c
theorem den26 (n e0 e p m : Int) (s : ByteArray) (S : St) : (den D (gamX [] []) (isRaw []) [] [] 19 ⟨4, 0⟩ 0 (thenOf (codeOf Tryz.f53)) (fun x _ s' => x = .normal /\ s' = S) (t26 e) (stF n e0 x0 s p m [.int .i64 e])) = (Ex.normal = Ex.normal /\ stF 0 e x0 s p m [.int .i64 e] = S) := by kernel_rfl
theorem catch_fail {g : G Tryz.prog} {n e0 e p m : Int} {s : ByteArray} {w : World} (hg : Good g (stF n e0 x0 s p m []) w) {v0 v1 v2 : Value} (h0 : R g (.pt 0 0) v0) (h1 : R g (.pt 1 0) v1) (h2 : R g (.pt 2 0) v2) :
  CallsDIn (WF none) 0 Tryz.prog 53 #[v0, v1, v2] (.panicking [{ v := .iface 93 (.agg #[.int .i64 e]), recovered := false }]) w fun e' u' w' => e' = .returned (.tuple #[]) /\ u' = .panicking [{ v := .iface 93 (.agg #[.int .i64 e]), recovered := true }] /\
   ∃ g', Good g' (stF 0 e x0 s p m [.int .i64 e]) w' /\ Step ⟨4, 0⟩ g (stF n e0 x0 s p m []) w g' (stF 0 e x0 s p m [.int .i64 e]) w' := by
 refine callsDIn_of_wpSIn Tryz.func53 (c := codeOf Tryz.f53) rfl trivial fun c₀ cs hu => ?_
 apply wpSIn_seq
 apply wpSIn_region
 simp [wpOpsSIn, go_sem, recoverD, hu, Tryz.ntmps53, Exit.thenS]
 apply wpSIn_seq
 apply wpSIn_region
 simp [wpOpsSIn, go_sem, Exit.thenS, assert_fail]
 apply wpSIn_seq
 apply wpSIn_region
 simp [wpOpsSIn, go_sem, Exit.thenS]
 refine wpSIn_cond (t := true) (by simp [Act.eval]) ?_
 simp only [if_true]
 refine wpSIn_of_wpIn rfl ?_
 obtain ⟨g1, k1, k2, k3, k4⟩ := good_alloc (z := [.int .i64 e]) (xs := #[.int .i64 e]) hg 93 (.ag _ _ rfl (fun i c x hc hx => by
  match i, hc, hx with
  | 0, hc, hx => simp at hc hx; subst hc; subst hx; exact .int _ _
  | i + 1, hc, hx => simp at hc) (fun i x hx => by
  match i, hx with
  | 0, hx => simp at hx; subst hx; rfl
  | i + 1, hx => simp at hx))
 letI B : Bd Tryz.prog := bdS Tryz.prog [] (by simp)
 refine wpIn_mono (@den_sound Tryz.prog B D (gamX [] []) (isRaw []) 19 ⟨4, 0⟩ D_ok (gmX gm0) gamX_det rfl [] [] 0 (thenOf (codeOf Tryz.f53)) (yOk_of (by kernel_rfl)) _ _ _ (Eq.mpr (den26 n e0 e p m s _) ⟨rfl, rfl⟩) none (.inr (by kernel_rfl)) g1 _ _ k1 ?ht) ?_
 case ht =>
  refine ⟨by simp, ⟨[], rfl, fun _ => rfl, by simp⟩, by simp, R_list _ ?_⟩
  simp only [t26, List.forall_mem_cons, List.not_mem_nil, false_imp_iff, implies_true, and_true]
  refine ⟨by simpa using h0.mono k2, by simpa using h1.mono k2, by simpa using h2.mono k2, ?_, by simpa [stF] using k4⟩
  simp
  refine .ic 93 _ _ (.ag _ _ rfl (fun i c x hc hx => by
   match i, hc, hx with
   | 0, hc, hx => simp at hc hx; subst hc; subst hx; exact .int _ _
   | i + 1, hc, hx => simp at hc) (fun i x hx => by
   match i, hx with
   | 0, hx => simp at hx; subst hx; rfl
   | i + 1, hx => simp at hx))
 rintro x a' w' ⟨x0, g', t', st', ⟨rfl, rfl⟩, q1, q2, q3, q4⟩
 cases x <;> first | (exact q1.elim) | skip
 obtain ⟨ms, m1, m2, _⟩ := q3.defers
 have m1 : a'.defers = ms ++ [] := m1
 rw [m2 rfl] at m1
 exact ⟨m1, _, rfl, .tuple #[], by simp [results, Tryz.results53], rfl, rfl, g', q2, (k3 ⟨4, 0⟩).trans q4⟩
theorem put_defers {a : Act} {d : Option Tmp} {x : Value} : (a.put d x).defers = a.defers := by cases d <;> rfl
theorem dops_pre {P : Program} {D : TD} {Γ : Gam} {n : Nat} (hD : TDok P D) (hΓ : GamOk P Γ) {ops : Array Oper} {Q' : Exit -> Act -> World -> Prop} {A : Tm -> St -> Prop} {rest : List Oper} : ∀ (l : List Oper) (g : G P) (st : St) (w : World) (t : Tm) (a : Act), Good g st w -> RelT g n t a -> dops D Γ n ops l t st A (fun _ _ _ => False) ->
  (∀ g' st' w' t' a', A t' st' -> Good g' st' w' -> RelT g' n t' a' -> g.le g' -> (∀ b0, Step b0 g st w g' st' w') -> a'.defers = a.defers -> wpListIn (WF none) 0 P ops Q' rest a' w') -> wpListIn (WF none) 0 P ops Q' (l ++ rest) a w
 | [], g, st, w, t, a, hg, ht, h, hq => hq g st w t a h hg ht (G.le_refl g) (fun _ => Step.refl) rfl
 | o :: r, g, st, w, t, a, hg, ht, h, hq => by
  unfold dops at h
  rw [List.cons_append]
  unfold wpListIn
  rcases dguard_sound ht h with ⟨t1, ht1, h, hw⟩ | ⟨t1, ht1, h, hw⟩
  . rw [if_pos hw]
    refine dopN_sound hD hΓ hg ht1 h none _ _ (fun v s' x g' w' hk g1 l1 s1 r1 => ?_) (fun u s' v g' w' hx g1 l1 s1 r1 => hx.elim)
    obtain ⟨t2, k1, k2⟩ := (ht1.mono l1.le).fin r1 hk
    exact dops_pre hD hΓ r g' s' w' t2 _ g1 k2 k1 fun g2 st2 w2 t2 a2 q1 q2 q3 q4 q5 q6 => hq g2 st2 w2 t2 a2 q1 q2 q3 (l1.le.trans q4) (fun b0 => (s1 b0).trans (q5 b0)) (q6.trans put_defers)
  . rw [if_neg (by rw [hw]; simp)]
    obtain ⟨t2, k1, k2⟩ := ht1.fin (o := o) (R.cst Go.undef) h
    exact ⟨fun _ _ => trivial, dops_pre hD hΓ r g st w t2 _ hg k2 k1 fun g2 st2 w2 t2 a2 q1 q2 q3 q4 q5 q6 => hq g2 st2 w2 t2 a2 q1 q2 q3 q4 q5 (q6.trans put_defers)⟩
def ops1 (c : Code) : List Oper := match c with | .seq (.region _ o _) _ => o.toList | _ => []
def ops2 (c : Code) : List Oper := match c with | .seq _ (.seq (.region _ o _) _) => o.toList | _ => []
def rest2 (c : Code) : Code := match c with | .seq _ (.seq _ r) => r | c => c
theorem code12 : codeOf Tryz.f23 = .seq (.region 0 (ops1 (codeOf Tryz.f23)).toArray false) (.seq (.region 1 (ops2 (codeOf Tryz.f23)).toArray false) (rest2 (codeOf Tryz.f23))) := by kernel_rfl
abbrev rs12 : List ResultVar := [.cell 2 42, .cell 3 3, .cell 4 26]
def q12 (A : Kn) (B : Kn) : Kc := fun x t s => match x with
 | .ret => dres D t s rs12 fun l => A (resV l) s
 | .pan v => get t 2 = .pt 0 0 /\ get t 3 = .pt 1 0 /\ get t 4 = .pt 2 0 /\ B v s
 | _ => False
def st12 : St := [some (.cells x0), some (.cells [.int .i64 0]), some (.cells [.int .i64 0])]
def t12 (s : ByteArray) : Tm := [(0, .str s), (2, .pt 0 0), (3, .pt 1 0), (4, .pt 2 0)]
def ok12 (K : Kn) (s : ByteArray) (a : Sx × Nat × List UInt8) : Prop := K (.tu [.ag [.bool a.1.isList, .str a.1.atom, .sl false .sexp a.1.list], .int .i64 ((s.size : Int) - (a.2.2.length : Int)), .int .i64 0]) []
def er12 (K : Kn) (e : Int) : Prop := K (.tu [.ag x0, .int .i64 0, .int .i64 e]) []
theorem den12 (s : ByteArray) (K B : Kn) : (den D (gamX [(54, rw54)] []) (isRaw [(54, rw54)]) [] [] 17 ⟨3, 0⟩ 0 (rest2 (codeOf Tryz.f23)) (q12 (settle0 K) B) (t12 s) st12) =
  (sexpPre (1, s, 0, 0, ()) /\ Res.go (rdS ((13 : Int) - 1).toNat (0 : Int).toNat ((bl s).drop (0 : Int).toNat)) (ok12 K s)
   (fun e => ∀ (p m : Int), (T.pt 0 0 = .pt 0 0 /\ T.pt 1 0 = .pt 1 0 /\ T.pt 2 0 = .pt 2 0 /\ B (.ic 93 (.ag [.int .i64 e])) (stF 0 0 x0 s p m [])))) := by kernel_rfl
theorem res12 (s : ByteArray) (K : Kn) (e p m : Int) : (dres D [(2, .pt 0 0), (3, .pt 1 0), (4, .pt 2 0)] (stF 0 e x0 s p m [.int .i64 e]) rs12 fun l => settle0 K (resV l) (stF 0 e x0 s p m [.int .i64 e])) = er12 K e := by kernel_rfl
theorem pre12 (s : ByteArray) (A : Tm -> St -> Prop) : dops D (gamX [] []) 17 (ops1 (codeOf Tryz.f23)).toArray (ops1 (codeOf Tryz.f23)) [(0, .str s)] [] A (fun _ _ _ => False) = A [(0, .str s), (2, .pt 0 0), (3, .pt 1 0), (4, .pt 2 0)] st12 := by kernel_rfl
theorem pre12' (s : ByteArray) (A : Tm -> St -> Prop) : dops D (gamX [] []) 17 (ops2 (codeOf Tryz.f23)).toArray ((ops2 (codeOf Tryz.f23)).take 1) (t12 s) st12 A (fun _ _ _ => False) = A (put (t12 s) 6 (.fn 53 [] [.pt 0 0, .pt 1 0, .pt 2 0])) st12 := by kernel_rfl
theorem pt_kept {P : Program} {b0 : B0} {g g' : G P} {st st' : St} {w w' : World} (h : Step b0 g st w g' st' w') {k : Nat} {cs : List T} (hk : k < b0.b) (ho : st[k]? = some (some (.cells cs))) {y : Value} (hr : R g (.pt k 0) y) : R g' (.pt k 0) y := by
 obtain ⟨_, _, _, h3⟩ := h.kept k hk _ ho
 cases hr with
 | pt _ _ oi h1 => exact .pt _ _ oi (by rw [h3]; exact h1)
theorem step_less {P : Program} {b0 : B0} {g g' : G P} {st st' : St} {w w' : World} (h : Step b0 g st w g' st' w') : Step ⟨0, 0⟩ g st w g' st' w' :=
 { h with kept := fun _ h => absurd h (Nat.not_lt_zero _), fixd := fun _ h => absurd h (Nat.not_lt_zero _) }
def op21 (c : Code) : Oper := (ops2 c).getD 1 default
theorem df12_is : (ops2 (codeOf Tryz.f23)).drop 1 = [(op21 (codeOf Tryz.f23))] := by kernel_rfl
theorem df12_op : (op21 (codeOf Tryz.f23)).op = .defer { callee := .value (.tmp 6), args := #[], argTypes := #[] } := by kernel_rfl
theorem df12_guard : (op21 (codeOf Tryz.f23)).guard = none := by kernel_rfl
theorem df12_dst : (op21 (codeOf Tryz.f23)).dst = none := by kernel_rfl
def erB (K : Kn) (s : ByteArray) : Kn := fun v s' => ∃ e p m, v = .ic 93 (.ag [.int .i64 e]) /\ s' = stF 0 0 x0 s p m [] /\ er12 K e
theorem F23_ok (s : ByteArray) (K X : Kn) (hs : sexpPre (1, s, 0, 0, ())) (h : Res.go (rdS 12 0 (bl s)) (ok12 K s) (er12 K)) : FCalls Tryz.prog 23 [.str s] [] K X := by
 refine FCalls.settle0 fun g w hg => Atc.of (by unfold enters; rw [Tryz.func23]; kernel_rfl) fun args hrl => ?_
 refine callsIn_wide.1 (callsIn_of_wp_marks (F := WF none) (n := 0) Tryz.func23 (c := codeOf Tryz.f23) rfl trivial ?_)
 rw [code12, Tryz.ntmps23]
 have hΓ : GamOk Tryz.prog (gamX [] []) := gamX_ok (rs := []) (l := []) (fun p hp => by cases hp) (fun p hp => by cases hp)
 refine wpIn_seq (wpIn_region_lit (Eq.mp (congrArg (fun L => wpListIn (WF none) 0 Tryz.prog (ops1 (codeOf Tryz.f23)).toArray _ L _ w) (List.append_nil (ops1 (codeOf Tryz.f23)))) (dops_pre (rest := []) D_ok hΓ (ops1 (codeOf Tryz.f23)) g [] w (initT 0 [.str s]) _ hg (RelT_init (n := 17) hrl (by simp)) (Eq.mpr (pre12 s fun t' s' => t' = t12 s /\ s' = st12) ⟨rfl, rfl⟩) ?_)))
 rintro g1 _ w1 _ a1 ⟨rfl, rfl⟩ p1 p2 p3 p4 p5
 refine wpIn_seq (wpIn_region_lit (Eq.mp (congrArg (fun L => wpListIn (WF none) 0 Tryz.prog (ops2 (codeOf Tryz.f23)).toArray _ L _ w1) (List.take_append_drop 1 (ops2 (codeOf Tryz.f23)))) (dops_pre (rest := (ops2 (codeOf Tryz.f23)).drop 1) D_ok hΓ ((ops2 (codeOf Tryz.f23)).take 1) g1 st12 w1 (t12 s) a1 p1 p2 (Eq.mpr (pre12' s fun t' s' => t' = put (t12 s) 6 (.fn 53 [] [.pt 0 0, .pt 1 0, .pt 2 0]) /\ s' = st12) ⟨rfl, rfl⟩) ?_)))
 rintro g2 _ w2 _ a2 ⟨rfl, rfl⟩ r1 r2 r3 r4 r5
 rw [df12_is]
 unfold wpListIn
 rw [if_pos (by simp [Region.wanted, df12_guard])]
 refine ⟨fun _ _ => trivial, ?_⟩
 have hv : R g2 (.fn 53 [] [.pt 0 0, .pt 1 0, .pt 2 0]) (a2.tmps.getD 6 Go.undef) := r2.val 6
 obtain ⟨y0, y1, y2, e6, z0, z1, z2⟩ : ∃ y0 y1 y2, a2.tmps.getD 6 Go.undef = .func (.func 53) #[] #[y0, y1, y2] /\ R g2 (.pt 0 0) y0 /\ R g2 (.pt 1 0) y1 /\ R g2 (.pt 2 0) y2 := by
  generalize a2.tmps.getD 6 Go.undef = z at hv
  cases hv with
  | fn _ _ _ xs ys k0 k1 k2 k3 k4 =>
   obtain rfl : xs = #[] := Array.eq_empty_of_size_eq_zero (by simpa using k1.symm)
   obtain ⟨l⟩ := ys
   match l, k2, k4 with
   | [y0, y1, y2], _, k4 => exact ⟨y0, y1, y2, rfl, k4 0 _ _ rfl rfl, k4 1 _ _ rfl rfl, k4 2 _ _ rfl rfl⟩
  | yl _ _ yi _ _ k0 => cases k0
 have hrun : ((op21 (codeOf Tryz.f23)).semAt (WF none).round a2.eval).run Tryz.prog w2 = .ok (.defer { target := .fn (.func 53) #[y0, y1, y2], args := #[] }) w2 := by
  show (execOp a2.eval (op21 (codeOf Tryz.f23))).run Tryz.prog w2 = _
  simp [execOp, df12_op, resolve, Act.eval, e6, Deferred.ofValue, go_sem]
 rw [hrun, Oper.uponIn_defer]
 obtain ⟨o0, rfl, u0⟩ : ∃ oi : OI, y0 = .pointer (some ⟨oi.b, 0, none⟩) /\ g2.ob 0 0 = some oi := by cases z0 with | pt _ _ oi k => exact ⟨oi, rfl, k⟩
 obtain ⟨o1, rfl, u1⟩ : ∃ oi : OI, y1 = .pointer (some ⟨oi.b, 0, none⟩) /\ g2.ob 1 0 = some oi := by cases z1 with | pt _ _ oi k => exact ⟨oi, rfl, k⟩
 obtain ⟨o2, rfl, u2⟩ : ∃ oi : OI, y2 = .pointer (some ⟨oi.b, 0, none⟩) /\ g2.ob 2 0 = some oi := by cases z2 with | pt _ _ oi k => exact ⟨oi, rfl, k⟩
 have rsz := r2.size
 have rv := r2.val
 letI B : Bd Tryz.prog := bdS Tryz.prog [{ target := .fn (.func 53) #[.pointer (some ⟨o0.b, 0, none⟩), .pointer (some ⟨o1.b, 0, none⟩), .pointer (some ⟨o2.b, 0, none⟩)], args := #[] }] (by
  intro d hd D e
  simp only [List.mem_cons, List.not_mem_nil, or_false] at hd
  rw [hd] at e
  cases e)
 have hd0 : a2.defers = [] := by rw [r5, p5]
 have h' : sexpPre (1, s, 0, 0, ()) /\ Res.go (rdS ((13 : Int) - 1).toNat (0 : Int).toNat ((bl s).drop (0 : Int).toNat)) (ok12 K s)
   (fun e => ∀ (p m : Int), (T.pt 0 0 = .pt 0 0 /\ T.pt 1 0 = .pt 1 0 /\ T.pt 2 0 = .pt 2 0 /\ (erB K s) (.ic 93 (.ag [.int .i64 e])) (stF 0 0 x0 s p m []))) := by
  refine ⟨hs, ?_⟩
  show Res.go (rdS 12 0 (bl s)) _ _
  cases hr : rdS 12 0 (bl s) with
  | ok a => rw [hr] at h; exact h
  | err e => rw [hr] at h; exact fun p m => ⟨rfl, rfl, rfl, e, p, m, rfl, rfl, h⟩
 have hrs : GamOk Tryz.prog (gamX [(54, rw54)] []) := gamX_ok (rs := [(54, rw54)]) (l := []) (by intro p hp; simp only [List.mem_cons, List.not_mem_nil, or_false] at hp; subst hp; exact rw54_ok) (fun p hp => by cases hp)
 refine wpIn_mono (@den_sound Tryz.prog B D (gamX [(54, rw54)] []) (isRaw [(54, rw54)]) 17 ⟨3, 0⟩ D_ok hrs gamX_det rfl [] [] 0 (rest2 (codeOf Tryz.f23)) (yOk_of (by kernel_rfl)) _ _ _ (Eq.mpr (den12 s K (erB K s)) h') none (.inr (by kernel_rfl)) g2 w2 _ r1 ?ht) ?_
 case ht =>
  refine ⟨?_, ⟨[], ?_, fun _ => rfl, by simp⟩, ?_, R_list _ ?_⟩
  . rw [df12_dst]; exact rsz
  . rw [df12_dst]; show _ :: a2.defers = _; rw [hd0]; rfl
  . rw [df12_dst]; simp [Act.put, hd0]
  . rw [df12_dst]
    simp only [t12, List.forall_mem_cons, List.not_mem_nil, false_imp_iff, implies_true, and_true]
    exact ⟨rv 0, rv 2, rv 3, rv 4⟩
 rintro x a' w' ⟨x0', g', t', st', hq, q1, q2, q3, q4⟩
 obtain ⟨ms, m1, m2, _⟩ := q3.defers
 have m1 : a'.defers = ms ++ B.bd := m1
 rw [m2 rfl, List.nil_append] at m1
 have hst : Step ⟨0, 0⟩ g [] w g' st' w' := ((p4 _).trans (r4 _)).trans (step_less q4)
 have b0 := pt_kept q4 (k := 0) (by decide) rfl z0
 have b1 := pt_kept q4 (k := 1) (by decide) rfl z1
 have b2 := pt_kept q4 (k := 2) (by decide) rfl z2
 have hinv : ∀ w : World, (invoke (.fn (.func 53) #[.pointer (some ⟨o0.b, 0, none⟩), .pointer (some ⟨o1.b, 0, none⟩), .pointer (some ⟨o2.b, 0, none⟩)]) #[]).run Tryz.prog w = .ok (.enter 53 #[.pointer (some ⟨o0.b, 0, none⟩), .pointer (some ⟨o1.b, 0, none⟩), .pointer (some ⟨o2.b, 0, none⟩)]) w := fun w => by
  simp [invoke, go_sem]
 cases x0' with
 | ret =>
  cases x <;> first | (exact q1.elim) | skip
  show LeavesInM (WF none) 0 Tryz.prog Tryz.f23 a'.tmps _ a'.defers .returning w'
  rw [m1]
  refine ⟨by simp, .inr ⟨fun h => (by cases h), .func 53, _, 53, _, rfl, hinv w', fun _ _ => trivial, (catch_idle _ _ _ w').mono ?_⟩⟩
  rintro e u' w3 ⟨rfl, rfl, y, rfl⟩
  obtain ⟨v1, v2⟩ := good_ext (w' := w'.alloc (.cells #[y] 93)) q2 rfl rfl rfl (by show w'.heap.size <= (w'.heap.push _).size; simp) (fun b hb => Below.heap_alloc w' _ b hb)
  have ht : @RelT Tryz.prog bdNone g' 17 t' { tmps := a'.tmps, defers := [] } := @RelT.mk Tryz.prog bdNone _ _ _ _ q3.size ⟨[], rfl, fun _ => rfl, by simp⟩ (by simp) q3.val
  obtain ⟨x, v, c1, c2, c3⟩ := results_sound (fn := Tryz.f23) (K := fun v => settle0 K v st') D_ok v1 ht hq
  exact ⟨x, c2, g', st', v1, hst.trans (v2 _), v, c1, c3⟩
 | pan v =>
  cases x <;> first | (exact q1.elim) | skip
  obtain ⟨t0, t1, t2, e, p, m, rfl, rfl, hk⟩ := hq
  obtain ⟨v, rfl, hv⟩ := q1
  obtain rfl : v = .iface 93 (.agg #[.int .i64 e]) := by
   cases hv with
   | ic _ _ x hx =>
    cases hx with
    | ag _ xs k1 k2 k3 =>
     obtain ⟨l⟩ := xs
     match l, k1, k2 with
     | [z], _, k2 =>
      have := k2 0 _ _ rfl rfl
      cases this
      rfl
  show LeavesInM (WF none) 0 Tryz.prog Tryz.f23 a'.tmps _ a'.defers (.panicking _) w'
  rw [m1]
  refine ⟨by simp, .inr ⟨fun h => (by cases h), .func 53, _, 53, _, rfl, hinv w', fun _ _ => trivial, (catch_fail q2 b0 b1 b2).mono ?_⟩⟩
  rintro e' u' w3 ⟨rfl, rfl, g3, v1, v2⟩
  have c0 := pt_kept v2 (k := 0) (by decide) rfl (t0 ▸ q3.val 2)
  have c1 := pt_kept v2 (k := 1) (by decide) rfl (t1 ▸ q3.val 3)
  have c2 := pt_kept v2 (k := 2) (by decide) rfl (t2 ▸ q3.val 4)
  have ht : @RelT Tryz.prog bdNone g3 17 [(2, .pt 0 0), (3, .pt 1 0), (4, .pt 2 0)] { tmps := a'.tmps, defers := [] } := @RelT.mk Tryz.prog bdNone _ _ _ _ q3.size ⟨[], rfl, fun _ => rfl, by simp⟩ (by simp) (R_list _ (by
   simp only [List.forall_mem_cons, List.not_mem_nil, false_imp_iff, implies_true, and_true]
   exact ⟨c0, c1, c2⟩))
  obtain ⟨x, v, c1, c2, c3⟩ := results_sound (fn := Tryz.f23) (K := fun v => settle0 K v (stF 0 e x0 s p m [.int .i64 e])) D_ok v1 ht (Eq.mpr (res12 s K e p m) hk)
  exact ⟨x, c2, g3, _, v1, hst.trans (step_less v2), v, c1, c3⟩
 | _ => exact hq.elim
end Go.Proofs.YtoclmkbjgmgekaaGreatDoor
namespace Go.Proofs.YtoclmkbjgmgekaaGreatDoor
open Go.RowKit
def rdT (s : ByteArray) : Sx × Int × Int := match rdS 12 0 (bl s) with
 | .ok a => (a.1, (s.size : Int) - (a.2.2.length : Int), 0)
 | .err e => (⟨false, ⟨#[]⟩, []⟩, 0, e)
def topP (s : ByteArray) : Prop := s.size <= 2147483648
def sp23 : Sp := ⟨[.leaf], [.str], fun g => topP g.1, fun g => .tu [.ag [.bool (rdT g.1).1.isList, .str (rdT g.1).1.atom, .sl false .sexp (rdT g.1).1.list], .int .i64 (rdT g.1).2.1, .int .i64 (rdT g.1).2.2], fun _ => none⟩
theorem wkK_nil3 {K : Kn} {b : Bool} {a : ByteArray} {v u : T} {s : St} (h : K (.tu [.ag [.bool b, .str a, .sl false .sexp []], v, u]) s) : wkK K (.tu [.ag [.bool b, .str a, .nil], v, u]) s :=
 ⟨_, Weak.tu (WeakL.cons weak_nil (WeakL.cons (Weak.refl _) (WeakL.cons (Weak.refl _) WeakL.nil))), h⟩
theorem sp23_ok : sp23.Ok Tryz.prog 23 false :=
 ⟨by
  rintro ⟨s, ⟨⟩⟩ K X q1 h
  have q1 : s.size <= 2147483648 := q1
  have h : K (.tu [.ag [.bool (rdT s).1.isList, .str (rdT s).1.atom, .sl false .sexp (rdT s).1.list], .int .i64 (rdT s).2.1, .int .i64 (rdT s).2.2]) [] := h
  refine FCalls.weak (F23_ok s _ X ⟨⟨Int.le_refl 1, (by omega : (1 : Int) <= 13)⟩, ⟨Int.le_refl 0, Int.natCast_nonneg _, (by unfold lim; omega : s.size <= 2 * lim)⟩, Int.le_refl 0, (by omega : (0 : Int) <= 20000)⟩ ?_)
  unfold rdT at h
  cases hr : rdS 12 0 (bl s) with
  | ok a => rw [hr] at h; exact wkK_of h
  | err e => rw [hr] at h; exact wkK_nil3 h, fun _ _ _ => rfl, fun _ => rfl, fun h => (by cases h)⟩
def ckG (x : Sx) : Int := if (madd x 0 false 1).2 = true then 4 else shS x
def ckN (x : Sx) : Int := if 20000 < cnt x 20000 12 then 4 else ckR x
def sx0 : Sx := ⟨false, ⟨#[]⟩, []⟩
def dcT (s : ByteArray) : Sx × Int := if (rdT s).2.2 = 0 then (if (rdT s).2.1 = (s.size : Int) then ((rdT s).1, 0) else (sx0, 12)) else (sx0, (rdT s).2.2)
def intB (n : Int) : Sx × Int := if n < -1099511627776 ∨ 1099511627776 < n then (sx0, 2) else (⟨false, decB n, []⟩, 0)
end Go.Proofs.YtoclmkbjgmgekaaGreatDoor
namespace Go.Proofs.YtoclmkbjgmgekaaGreatDoor
open Go.RowKit
attribute [local irreducible] dfun dround
def H40 : List (Nat × Hint) := []
def J40 : List (Nat × Hint) := [(2, ⟨[((2, []), none), ((5, []), none), ((6, []), none)], [(2, .pt 0 0), (5, .pt 1 0), (6, .pt 2 0)], [.cells [.leaf, .leaf, .nil], .cells [.leaf, .leaf, .leaf], .cells [.leaf, .leaf, .leaf, .leaf]], [.bool, .str, .bool, .str, .sl .sexp, .str, .int .i64, .int .i64, .int .i64]⟩)]
abbrev S40 : List Sh := [.leaf]
abbrev L40 : List Lf := [.str]
def F40_J7 (K : Kn) (t1_6 : Bool) (t2_6 : ByteArray) (x1_6 : Bool) (x2_6 : ByteArray) (x3_6 : List Sx) (r1_6 : ByteArray) (r2_6 r3_6 r4_6 : Int) : Prop :=
 bif !decide (r4_6 = 0) then (
  K (.tu [.ag [.bool false, .str (⟨#[]⟩ : ByteArray), .nil], .int .i64 0, .int .i64 r4_6]) [])
 else (
  K (.tu [.ag [.bool x1_6, .str x2_6, .sl false .sexp x3_6], .int .i64 r2_6, .int .i64 0]) [])
def F40 (g : prodL L40) (K : Kn) : Prop :=
 readPre (g.1, 0, 20000, 0, 12, ()) /\
 Res.go (rdS (12 : Int).toNat (20000 - (20000 : Int)).toNat ((bl g.1).drop (0 : Int).toNat)) (fun a1 =>
 F40_J7 K false (⟨#[]⟩ : ByteArray) a1.1.isList a1.1.atom a1.1.list g.1 ((g.1.size : Int) - (a1.2.2.length : Int)) (20000 - (a1.2.1 : Int)) 0) (fun e2 => ∀ (y5 : Sx) (p3 m4 : Int),
 F40_J7 K false (⟨#[]⟩ : ByteArray) y5.isList y5.atom y5.list g.1 p3 m4 e2)
theorem F40_eq (g : prodL L40) (K X : Kn) : F40 g K = dfun D (gamX [(56, rw56)] []) (isRaw [(56, rw56)]) H40 J40 22 [.cell 2 42, .tmp 3, .tmp 4] (codeOf Tryz.f40) (argsT S40 L40 g) [] (settle0 K) X := by kernel_rfl
theorem F40_ok (g : prodL L40) (K X : Kn) (h : F40 g K) : FCalls Tryz.prog 40 (argsT S40 L40 g) [] K X :=
 FCalls.settle0 (dfun_sound (Γ := gamX [(56, rw56)] []) (mu := isRaw [(56, rw56)]) (H := H40) (J := J40) D_ok (gamX_ok (rs := [(56, rw56)]) (l := []) (by intro p hp; simp only [List.mem_cons, List.not_mem_nil, or_false] at hp; subst hp; exact rw56_ok) (fun p hp => by cases hp)) gamX_det rfl Tryz.func40 (c := codeOf Tryz.f40) rfl Tryz.ntmps40 Tryz.results40 (by unfold enters; rw [Tryz.func40]; kernel_rfl) (Nat.le_of_ble_eq_true (by kernel_rfl)) (c0 := 0) (Eq.mp (F40_eq g K X) h))
def H10 : List (Nat × Hint) := []
def J10 : List (Nat × Hint) := []
abbrev S10 : List Sh := [.leaf]
abbrev L10 : List Lf := [.str]
def F10 (g : prodL L10) (K : Kn) : Prop :=
 sp23.pre (g.1, ()) /\
 bif !decide ((rdT g.1).2.2 = 0) then (
  K (.tu [.ag [.bool false, .str (⟨#[]⟩ : ByteArray), .nil], .int .i64 ((rdT g.1).2.2)]) [])
 else (
  bif !decide ((rdT g.1).2.1 = (g.1.size : Int)) then (
  K (.tu [.ag [.bool false, .str (⟨#[]⟩ : ByteArray), .nil], .int .i64 12]) [])
 else (
  K (.tu [.ag [.bool ((rdT g.1).1.isList), .str ((rdT g.1).1.atom), .sl false .sexp ((rdT g.1).1.list)], .int .i64 0]) []))
theorem F10_eq (g : prodL L10) (K X : Kn) : F10 g K = dfun D (gamX [] [(23, false, sp23)]) (isRaw []) H10 J10 23 [.cell 2 42, .tmp 3] (codeOf Tryz.f10) (argsT S10 L10 g) [] (settle0 K) X := by kernel_rfl
theorem F10_ok (g : prodL L10) (K X : Kn) (h : F10 g K) : FCalls Tryz.prog 10 (argsT S10 L10 g) [] K X :=
 FCalls.settle0 (dfun_sound (Γ := gamX [] [(23, false, sp23)]) (mu := isRaw []) (H := H10) (J := J10) D_ok (gamX_ok (rs := []) (l := [(23, false, sp23)]) (fun p hp => by cases hp) (by intro p hp; simp only [List.mem_cons, List.not_mem_nil, or_false] at hp; subst hp; exact sp23_ok)) gamX_det rfl Tryz.func10 (c := codeOf Tryz.f10) rfl Tryz.ntmps10 Tryz.results10 (by unfold enters; rw [Tryz.func10]; kernel_rfl) (Nat.le_of_ble_eq_true (by kernel_rfl)) (c0 := 0) (Eq.mp (F10_eq g K X) h))
def H65 : List (Nat × Hint) := []
def J65 : List (Nat × Hint) := []
abbrev S65 : List Sh := [.ag [.leaf, .leaf, .leaf]]
abbrev L65 : List Lf := [.bool, .str, .sl .sexp]
def F65 (g : prodL L65) (K : Kn) : Prop :=
 addPre (g.1, g.2.1, g.2.2.1, 1, 0, false, ()) /\
 bif (madd ⟨g.1, g.2.1, g.2.2.1⟩ 0 false 1).2 then (
  K (.int .i64 4) [])
 else (
  sp94.pre (g.1, g.2.1, g.2.2.1, ()) /\
 K (.int .i64 (shS ⟨g.1, g.2.1, g.2.2.1⟩)) [])
theorem F65_eq (g : prodL L65) (K X : Kn) : F65 g K = dfun D (gamX [(93, rw93)] [(94, true, sp94)]) (isRaw [(93, rw93)]) H65 J65 15 [.tmp 2] (codeOf Tryz.f65) (argsT S65 L65 g) [] (settle0 K) X := by kernel_rfl
theorem F65_ok (g : prodL L65) (K X : Kn) (h : F65 g K) : FCalls Tryz.prog 65 (argsT S65 L65 g) [] K X :=
 FCalls.settle0 (dfun_sound (Γ := gamX [(93, rw93)] [(94, true, sp94)]) (mu := isRaw [(93, rw93)]) (H := H65) (J := J65) D_ok (gamX_ok (rs := [(93, rw93)]) (l := [(94, true, sp94)]) (by intro p hp; simp only [List.mem_cons, List.not_mem_nil, or_false] at hp; subst hp; exact rw93_ok) (by intro p hp; simp only [List.mem_cons, List.not_mem_nil, or_false] at hp; subst hp; exact sp94_ok)) gamX_det rfl Tryz.func65 (c := codeOf Tryz.f65) rfl Tryz.ntmps65 Tryz.results65 (by unfold enters; rw [Tryz.func65]; kernel_rfl) (Nat.le_of_ble_eq_true (by kernel_rfl)) (c0 := 0) (Eq.mp (F65_eq g K X) h))
def H58 : List (Nat × Hint) := []
def J58 : List (Nat × Hint) := []
abbrev S58 : List Sh := [.ag [.leaf, .leaf, .leaf]]
abbrev L58 : List Lf := [.bool, .str, .sl .sexp]
def F58 (g : prodL L58) (K : Kn) : Prop :=
 sp81.pre (g.1, g.2.1, g.2.2.1, 20000, 12, ()) /\
 bif decide (20000 < cnt ⟨g.1, g.2.1, g.2.2.1⟩ 20000 12) then (
  K (.int .i64 4) [])
 else (
  sp82.pre (g.1, g.2.1, g.2.2.1, ()) /\
 K (.int .i64 (ckR ⟨g.1, g.2.1, g.2.2.1⟩)) [])
theorem F58_eq (g : prodL L58) (K X : Kn) : F58 g K = dfun D (gamX [] [(81, true, sp81), (82, true, sp82)]) (isRaw []) H58 J58 8 [.tmp 2] (codeOf Tryz.f58) (argsT S58 L58 g) [] (settle0 K) X := by kernel_rfl
theorem F58_ok (g : prodL L58) (K X : Kn) (h : F58 g K) : FCalls Tryz.prog 58 (argsT S58 L58 g) [] K X :=
 FCalls.settle0 (dfun_sound D_ok (gmX (gmc sp81_ok (gmc sp82_ok gm0))) gamX_det rfl Tryz.func58 (c := codeOf Tryz.f58) rfl Tryz.ntmps58 Tryz.results58 (by unfold enters; rw [Tryz.func58]; kernel_rfl) (Nat.le_of_ble_eq_true (by kernel_rfl)) (c0 := 0) (Eq.mp (F58_eq g K X) h))
def H97 : List (Nat × Hint) := []
def J97 : List (Nat × Hint) := [(2, ⟨[((2, []), none)], [(0, .leaf), (2, .pt 0 0), (9, .leaf)], [.cells [.leaf, .leaf, .nil]], [.int .i64, .bool, .bool, .str]⟩)]
abbrev S97 : List Sh := [.leaf]
abbrev L97 : List Lf := [.int .i64]
def F97_J2 (K : Kn) (n_1 : Int) (t_1 t1_1 : Bool) (t2_1 : ByteArray) : Prop :=
 bif t_1 then (
  K (.tu [.ag [.bool false, .str (⟨#[]⟩ : ByteArray), .nil], .int .i64 2]) [])
 else (
  sp52.pre (n_1, ()) /\
 K (.tu [.ag [.bool false, .str (decB n_1), .nil], .int .i64 0]) [])
def F97 (g : prodL L97) (K : Kn) : Prop :=
 bif decide (g.1 < (-1099511627776)) then (
  F97_J2 K g.1 true false (⟨#[]⟩ : ByteArray))
 else (
  F97_J2 K g.1 (decide (1099511627776 < g.1)) false (⟨#[]⟩ : ByteArray))
theorem F97_eq (g : prodL L97) (K X : Kn) : F97 g K = dfun D (gamX [] [(52, true, sp52)]) (isRaw []) H97 J97 14 [.cell 2 42, .tmp 3] (codeOf Tryz.f97) (argsT S97 L97 g) [] (settle0 K) X := by kernel_rfl
theorem F97_ok (g : prodL L97) (K X : Kn) (h : F97 g K) : FCalls Tryz.prog 97 (argsT S97 L97 g) [] K X :=
 FCalls.settle0 (dfun_sound (Γ := gamX [] [(52, true, sp52)]) (mu := isRaw []) (H := H97) (J := J97) D_ok (gamX_ok (rs := []) (l := [(52, true, sp52)]) (fun p hp => by cases hp) (by intro p hp; simp only [List.mem_cons, List.not_mem_nil, or_false] at hp; subst hp; exact sp52_ok)) gamX_det rfl Tryz.func97 (c := codeOf Tryz.f97) rfl Tryz.ntmps97 Tryz.results97 (by unfold enters; rw [Tryz.func97]; kernel_rfl) (Nat.le_of_ble_eq_true (by kernel_rfl)) (c0 := 0) (Eq.mp (F97_eq g K X) h))
end Go.Proofs.YtoclmkbjgmgekaaGreatDoor
namespace Go.Proofs.YtoclmkbjgmgekaaGreatDoor
open Go.RowKit
def dg1 (a : Nat) (c : UInt8) : Nat := 10 * a + (c.toNat - 48)
def dv (a : Nat) (l : List UInt8) : Nat := l.foldl dg1 a
theorem dv_nil (a : Nat) : dv a [] = a := rfl
theorem dv_cons (a : Nat) (c : UInt8) (l : List UInt8) : dv a (c :: l) = dv (10 * a + (c.toNat - 48)) l := List.foldl_cons ..
theorem dv_app : ∀ (l m : List UInt8) (a : Nat), dv a (l ++ m) = dv (dv a l) m
 | [], _, _ => by rw [dv_nil, List.nil_append]
 | c :: l, m, a => by rw [List.cons_append, dv_cons, dv_cons, dv_app l m]
theorem dv_le : ∀ (l : List UInt8) (a : Nat), a <= dv a l
 | [], a => Nat.le_refl a
 | c :: l, a => by
  have h := dv_le l (10 * a + (c.toNat - 48))
  rw [dv_cons]
  generalize dv (10 * a + (c.toNat - 48)) l = z at h
  omega
attribute [irreducible] dv
theorem digsA (l m : List UInt8) : digs (l ++ m) = (digs l && digs m) := by simp [digs]
theorem digsC (c : UInt8) (l : List UInt8) : digs (c :: l) = true ↔ (48 <= c.toNat /\ c.toNat <= 57) /\ digs l = true := by simp [digs]
theorem dig_nat (k : Nat) (h : k < 10) : (UInt8.ofNat (48 + k)).toNat = 48 + k := by
 rw [UInt8.toNat_ofNat']; omega
theorem dec_dv (u : Nat) : dv 0 (Lib.decDigits u) = u := by
 induction u using Nat.strongRecOn with
 | ind u ih =>
  by_cases h : u < 10
  . rw [Lib.decDigits_one h]; rw [dv_cons, dv_nil, dig_nat u h]; omega
  . rw [Lib.decDigits, dif_neg h, dv_app, ih (u / 10) (by omega)]
    rw [dv_cons, dv_nil, dig_nat (u % 10) (by omega)]; omega
theorem dec_digs (u : Nat) : digs (Lib.decDigits u) = true := by
 induction u using Nat.strongRecOn with
 | ind u ih =>
  by_cases h : u < 10
  . rw [Lib.decDigits, dif_pos h]; rw [digsC, dig_nat u h]; exact ⟨by omega, rfl⟩
  . rw [Lib.decDigits, dif_neg h, digsA, ih (u / 10) (by omega), Bool.true_and, digsC, dig_nat (u % 10) (by omega)]
    exact ⟨by omega, rfl⟩
theorem dec_ne (u : Nat) : Lib.decDigits u ≠ [] := by
 by_cases h : u < 10
 . rw [Lib.decDigits, dif_pos h]; simp
 . rw [Lib.decDigits, dif_neg h]; simp
theorem dec_head (u : Nat) : head48 (Lib.decDigits u) = true -> u = 0 := by
 induction u using Nat.strongRecOn with
 | ind u ih =>
  by_cases h : u < 10
  . rw [Lib.decDigits, dif_pos h]; simp only [head48, dig_nat u h, decide_eq_true_eq]; omega
  . rw [Lib.decDigits, dif_neg h]
    intro h1
    have := ih (u / 10) (by omega)
    cases hd : Lib.decDigits (u / 10) with
    | nil => exact absurd hd (dec_ne _)
    | cons c r =>
     rw [hd] at h1 this
     have := this h1
     omega
theorem dv_pos {d : List UInt8} (h1 : digs d = true) (h2 : d ≠ []) (h3 : head48 d = false) : 1 <= dv 0 d := by
 cases d with
 | nil => exact absurd rfl h2
 | cons c r =>
  simp only [head48, decide_eq_false_iff_not] at h3
  have := ((digsC c r).1 h1).1
  have h5 := dv_le r (10 * 0 + (c.toNat - 48))
  rw [dv_cons]
  omega
theorem dec_uniq : ∀ (n : Nat) (d : List UInt8), d.length = n -> digs d = true -> d ≠ [] -> (head48 d = false ∨ d = [48]) -> Lib.decDigits (dv 0 d) = d
 | 0, d, hn, _, h, _ => absurd (List.eq_nil_of_length_eq_zero hn) h
 | n + 1, d, hn, h1, h2, h3 => by
  obtain ⟨d', c, rfl⟩ : ∃ d' c, d = d' ++ [c] := ⟨d.dropLast, d.getLast h2, (List.dropLast_concat_getLast h2).symm⟩
  rw [digsA, Bool.and_eq_true] at h1
  obtain ⟨h1, hc⟩ := h1
  have hc := ((digsC c []).1 hc).1
  have e : UInt8.ofNat (48 + (c.toNat - 48)) = c := by
   apply UInt8.toNat_inj.1
   rw [dig_nat _ (by omega)]; omega
  rw [dv_app, dv_cons, dv_nil]
  by_cases hd : d' = []
  . subst hd
    rw [Lib.decDigits, dif_pos (by rw [dv_nil]; omega)]
    simp only [dv_nil, Nat.mul_zero, Nat.zero_add, e, List.nil_append]
  . have hh : head48 d' = false := by
     cases d' with
     | nil => exact absurd rfl hd
     | cons x r =>
      rcases h3 with h3 | h3
      . exact h3
      . simp at h3
    have hp := dv_pos h1 hd hh
    have ih := dec_uniq n d' (by simp at hn; exact hn) h1 hd (.inl hh)
    rw [Lib.decDigits, dif_neg (by omega), show (10 * dv 0 d' + (c.toNat - 48)) / 10 = dv 0 d' by omega, ih, show (10 * dv 0 d' + (c.toNat - 48)) % 10 = c.toNat - 48 by omega, e]
def numV (l : List UInt8) : Int × Int :=
 let m := dv 0 (if l.head? = some 45 then l.tail else l)
 if 1099511627776 < m then (0, 2) else (if l.head? = some 45 then -(m : Int) else m, 0)
theorem head_digs {d : List UInt8} (h : digs d = true) : d.head? ≠ some 45 := by
 cases d with
 | nil => simp
 | cons c r =>
  have := ((digsC c r).1 h).1
  simp only [List.head?_cons, ne_eq, Option.some.injEq]
  rintro rfl
  exact absurd this.1 (by decide)
theorem can_itoa (n : Int) : canR (Lib.itoa n) = true := by
 unfold Lib.itoa
 split
 . rename_i h
   have h1 := dec_digs n.natAbs
   have h2 := dec_ne n.natAbs
   have h3 : head48 (Lib.decDigits n.natAbs) = false := by
    cases hh : head48 (Lib.decDigits n.natAbs) with
    | false => rfl
    | true => have := dec_head _ hh; omega
   simp [canR, h1, h2, h3]
 . rename_i h
   have h1 := dec_digs n.toNat
   have h2 := dec_ne n.toNat
   have h4 := head_digs h1
   simp only [canR, if_neg h4, h1, h2, decide_false, Bool.not_false, Bool.and_true, Bool.true_and, Bool.or_eq_true, Bool.not_eq_true', decide_eq_true_eq]
   cases hh : head48 (Lib.decDigits n.toNat) with
   | false => exact .inl rfl
   | true =>
    have := dec_head _ hh
    rw [this]
    exact .inr (by rw [Lib.decDigits]; rfl)
theorem num_itoa {n : Int} (h : ¬ (n < -1099511627776 ∨ 1099511627776 < n)) : numV (Lib.itoa n) = (n, 0) := by
 unfold Lib.itoa
 split
 . rename_i h'
   simp only [numV, List.head?_cons, if_true, List.tail_cons, dec_dv]
   rw [if_neg (by omega)]
   simp only [Prod.mk.injEq, and_true]; omega
 . rename_i h'
   have h4 := head_digs (dec_digs n.toNat)
   simp only [numV, if_neg h4, dec_dv]
   rw [if_neg (by omega)]
   simp only [Prod.mk.injEq, and_true]; omega
theorem itoa_num {l : List UInt8} {m : Int} (h : canR l = true) (hm : numV l = (m, 0)) : Lib.itoa m = l /\ ¬ (m < -1099511627776 ∨ 1099511627776 < m) := by
 unfold numV at hm
 dsimp only at hm
 by_cases hb : 1099511627776 < dv 0 (if l.head? = some 45 then l.tail else l)
 . rw [if_pos hb] at hm
   simp at hm
 rw [if_neg hb] at hm
 simp only [Prod.mk.injEq, and_true] at hm
 simp only [canR, Bool.and_eq_true, Bool.not_eq_true', decide_eq_false_iff_not, Bool.or_eq_true, decide_eq_true_eq] at h
 obtain ⟨⟨h1, h2⟩, h3⟩ := h
 by_cases h45 : l.head? = some 45
 . simp only [if_pos h45] at hm h1 h2 h3 hb
   obtain ⟨r, rfl⟩ : ∃ r, l = 45 :: r := by
    cases l with
    | nil => simp at h45
    | cons c r => simp at h45; exact ⟨r, by rw [h45]⟩
   simp only [List.tail_cons] at *
   have h3 : head48 r = false := by
    rcases h3 with h3 | h3
    . exact h3
    . simp at h3
   have hp := dv_pos h1 h2 h3
   unfold Lib.itoa
   rw [if_pos (by omega), show m.natAbs = dv 0 r by omega, dec_uniq _ r rfl h1 h2 (.inl h3)]
   exact ⟨rfl, by omega⟩
 . simp only [if_neg h45] at hm h1 h2 h3 hb
   unfold Lib.itoa
   rw [if_neg (by omega), show m.toNat = dv 0 l by omega, dec_uniq _ l rfl h1 h2 h3]
   exact ⟨rfl, by omega⟩
theorem decR_canR : ∀ (l : List UInt8), decR l = canR l
 | [] => rfl
 | c :: r => by
  have key : ∀ d : List UInt8, d.head? ≠ some 45 -> d ≠ [] -> (decR d = (digs d && (!head48 d || decide (d = [48])))) := fun d h1 h2 => by
   cases d with
   | nil => exact absurd rfl h2
   | cons c r =>
    have hc : ¬ (c.toNat = 45 /\ r ≠ []) := fun h => h1 (by rw [List.head?_cons, Option.some.injEq]; exact UInt8.toNat_inj.1 h.1)
    rw [decR, if_neg hc]
    congr 1
    simp only [head48]
    by_cases h48 : c.toNat = 48
    . have : c = 48 := UInt8.toNat_inj.1 h48
      subst this
      simp
    . simp [h48]
  by_cases h45 : c = 45
  . subst h45
    by_cases hr : r = []
    . subst hr; rfl
    . rw [decR, if_pos ⟨rfl, hr⟩]
      simp only [canR, List.head?_cons, if_true, List.tail_cons]
      by_cases hh : r.head? = some 45
      . have : digs r = false := by
         cases hd : digs r with
         | false => rfl
         | true => exact absurd hh (head_digs hd)
        simp [hh, this]
      . rw [key r hh hr]
        have e : ((45 : UInt8) :: r = [48]) = False := by simp
        simp only [hh, decide_false, Bool.not_false, Bool.and_true, hr, e, Bool.or_false]
        by_cases h48 : r = [48]
        . subst h48; simp [head48]
        . simp [h48]
  . rw [key (c :: r) (by simpa using h45) (by simp)]
    simp only [canR, List.head?_cons, Option.some.injEq, if_neg h45]
    simp
theorem parse_dv : ∀ (l : List UInt8) (a : Nat), digs l = true -> a < 18446744073709551616 -> (dv a l < 18446744073709551616 -> Lib.parseUint10 a l = .ok (dv a l)) /\ (18446744073709551616 <= dv a l -> Lib.parseUint10 a l = .range)
 | [], a, _, ha => by
  rw [dv_nil]
  exact ⟨fun _ => rfl, fun h => by omega⟩
 | c :: l, a, h, ha => by
  obtain ⟨h1, h2⟩ := (digsC c l).1 h
  rw [dv_cons, Lib.parseUint10, if_pos h1]
  have h3 := dv_le l (10 * a + (c.toNat - 48))
  have e : a * 10 + (c.toNat - 48) = 10 * a + (c.toNat - 48) := by omega
  rw [e]
  by_cases k1 : 1844674407370955162 <= a
  . rw [if_pos k1]
    exact ⟨fun h => by omega, fun _ => rfl⟩
  . rw [if_neg k1]
    by_cases k2 : 18446744073709551616 <= 10 * a + (c.toNat - 48)
    . rw [if_pos k2]
      exact ⟨fun h => by omega, fun _ => rfl⟩
    . rw [if_neg k2]
      exact parse_dv l _ h2 (by omega)
theorem numV_minus (r : List UInt8) : numV (45 :: r) = if 1099511627776 < dv 0 r then (0, 2) else (-(dv 0 r : Int), 0) := rfl
theorem numV_plain {l : List UInt8} (h : l.head? ≠ some 45) : numV l = if 1099511627776 < dv 0 l then (0, 2) else ((dv 0 l : Int), 0) := by simp only [numV, if_neg h]
theorem atoi_can {l : List UInt8} (h : canR l = true) : (Lib.atoiAll l = .range /\ numV l = (0, 2)) ∨ ∃ v, Lib.atoiAll l = .ok v /\ numV l = (if v < -1099511627776 ∨ 1099511627776 < v then (0, 2) else (v, 0)) := by
 simp only [canR, Bool.and_eq_true, Bool.not_eq_true', decide_eq_false_iff_not, Bool.or_eq_true, decide_eq_true_eq] at h
 obtain ⟨⟨h1, h2⟩, -⟩ := h
 by_cases h45 : l.head? = some 45
 . simp only [if_pos h45] at h1 h2
   obtain ⟨r, rfl⟩ : ∃ r, l = 45 :: r := by
    cases l with
    | nil => simp at h45
    | cons c r => simp at h45; exact ⟨r, by rw [h45]⟩
   simp only [List.tail_cons] at h1 h2
   rw [numV_minus, Lib.atoiAll_minus, Lib.parseMag, if_neg h2]
   obtain ⟨p1, p2⟩ := parse_dv r 0 h1 (by omega)
   by_cases hz : dv 0 r < 18446744073709551616
   . rw [p1 hz]
     simp only [Lib.signed]
     by_cases hw : 9223372036854775808 < dv 0 r
     . rw [if_pos hw, if_pos (by omega)]
       exact .inl ⟨rfl, rfl⟩
     . rw [if_neg hw]
       refine .inr ⟨_, rfl, ?_⟩
       by_cases hv : 1099511627776 < dv 0 r
       . rw [if_pos hv, if_pos (by omega)]
       . rw [if_neg hv, if_neg (by omega)]
   . rw [p2 (by omega), if_pos (show 1099511627776 < _ by omega)]
     exact .inl ⟨rfl, rfl⟩
 . simp only [if_neg h45] at h1 h2
   cases l with
   | nil => exact absurd rfl h2
   | cons c r =>
    have hc := ((digsC c r).1 h1).1
    rw [numV_plain h45, Lib.atoiAll_plain c r (by omega) (by omega), Lib.parseMag, if_neg h2]
    obtain ⟨p1, p2⟩ := parse_dv (c :: r) 0 h1 (by omega)
    by_cases hz : dv 0 (c :: r) < 18446744073709551616
    . rw [p1 hz]
      simp only [Lib.signless]
      by_cases hw : 9223372036854775808 <= dv 0 (c :: r)
      . rw [if_pos hw, if_pos (by omega)]
        exact .inl ⟨rfl, rfl⟩
      . rw [if_neg hw]
        refine .inr ⟨_, rfl, ?_⟩
        by_cases hv : 1099511627776 < dv 0 (c :: r)
        . rw [if_pos hv, if_pos (by omega)]
        . rw [if_neg hv, if_neg (by omega)]
    . rw [p2 (by omega), if_pos (show 1099511627776 < _ by omega)]
      exact .inl ⟨rfl, rfl⟩
def nmB (e : Int) (x : Sx) : Int × Int := if e = 0 then (if x.isList = true then (0, 8) else if canR (bl x.atom) = true then numV (bl x.atom) else (0, 3)) else (0, e)
end Go.Proofs.YtoclmkbjgmgekaaGreatDoor
namespace Go.Proofs.YtoclmkbjgmgekaaGreatDoor
open Go.RowKit
theorem bif_ndec {p : Prop} [Decidable p] {A B : Prop} : (bif !decide p then A else B) = if p then B else A := by
 by_cases h : p <;> simp [h]
theorem top_pre {s : ByteArray} (q1 : s.size <= 2147483648) : readPre (s, 0, 20000, 0, 12, ()) :=
 ⟨⟨Int.le_refl 0, Int.natCast_nonneg _, (by unfold lim; omega : s.size <= 2 * lim)⟩, ⟨(by omega : (0 : Int) <= 20000), Int.le_refl 20000⟩, rfl, (by omega : (0 : Int) <= 12), Int.le_refl 12⟩
def sp40 : Sp := ⟨S40, L40, fun g => topP g.1, sp23.res, fun _ => none⟩
theorem sp40_ok : sp40.Ok Tryz.prog 40 false :=
 ⟨by
  rintro ⟨s, ⟨⟩⟩ K X q1 h
  have h : K (.tu [.ag [.bool (rdT s).1.isList, .str (rdT s).1.atom, .sl false .sexp (rdT s).1.list], .int .i64 (rdT s).2.1, .int .i64 (rdT s).2.2]) [] := h
  refine FCalls.weak (F40_ok (s, ()) (wkK K) X ⟨top_pre q1, ?_⟩)
  show Res.go (rdS 12 0 (bl s)) _ _
  have hs := rdS_sound 12 0 (bl s) (by omega)
  unfold rdT at h
  cases hr : rdS 12 0 (bl s) with
  | ok a => rw [hr] at h; exact wkK_of h
  | err e =>
   rw [hr] at h
   intro y p m
   show F40_J7 _ _ _ _ _ _ _ _ _ _
   unfold F40_J7
   rw [bif_ndec, if_neg (by rcases hs.2 e hr with rfl | rfl <;> omega)]
   exact wkK_nil3 h, fun _ _ _ => rfl, fun _ => rfl, fun h => (by cases h)⟩
def sp10 : Sp := ⟨S10, L10, fun g => topP g.1, fun g => .tu [.ag [.bool (dcT g.1).1.isList, .str (dcT g.1).1.atom, .sl false .sexp (dcT g.1).1.list], .int .i64 (dcT g.1).2], fun _ => none⟩
theorem sp10_ok : sp10.Ok Tryz.prog 10 false :=
 ⟨by
  rintro ⟨s, ⟨⟩⟩ K X q1 h
  have h : K (.tu [.ag [.bool (dcT s).1.isList, .str (dcT s).1.atom, .sl false .sexp (dcT s).1.list], .int .i64 (dcT s).2]) [] := h
  refine FCalls.weak (F10_ok (s, ()) (wkK K) X ⟨q1, ?_⟩)
  unfold dcT at h
  rw [bif_ndec, bif_ndec]
  dsimp only at *
  split at h
  . rename_i h1
    rw [if_pos h1]
    split at h
    . rename_i h2; rw [if_pos h2]; exact wkK_of h
    . rename_i h2; rw [if_neg h2]; exact wkK_nil2 h
  . rename_i h1; rw [if_neg h1]; exact wkK_nil2 h, fun _ _ _ => rfl, fun _ => rfl, fun h => (by cases h)⟩
def sp97 : Sp := ⟨S97, L97, fun g => intP g.1, fun g => .tu [.ag [.bool (intB g.1).1.isList, .str (intB g.1).1.atom, .sl false .sexp (intB g.1).1.list], .int .i64 (intB g.1).2], fun _ => none⟩
theorem sp97_ok : sp97.Ok Tryz.prog 97 false :=
 ⟨by
  rintro ⟨n, ⟨⟩⟩ K X q1 h
  have h : K (.tu [.ag [.bool (intB n).1.isList, .str (intB n).1.atom, .sl false .sexp (intB n).1.list], .int .i64 (intB n).2]) [] := h
  refine FCalls.weak (F97_ok (n, ()) (wkK K) X ?_)
  unfold F97
  dsimp only
  rw [bif_dec]
  unfold intB at h
  by_cases h1 : n < -1099511627776
  . rw [if_pos (.inl h1)] at h
    rw [if_pos h1]
    exact wkK_nil2 h
  . rw [if_neg h1]
    unfold F97_J2
    rw [bif_dec]
    by_cases h2 : 1099511627776 < n
    . rw [if_pos (.inr h2)] at h
      rw [if_pos h2]
      exact wkK_nil2 h
    . rw [if_neg (fun e => e.elim h1 h2)] at h
      rw [if_neg h2]
      exact ⟨q1, wkK_nil2 h⟩, fun _ _ _ => rfl, fun _ => rfl, fun h => (by cases h)⟩
def bkP (g : prodL [.bool, .str, .sl .sexp]) : Prop := bkS ⟨g.1, g.2.1, g.2.2.1⟩ <= lim
def sp65 : Sp := ⟨S65, L65, bkP, fun g => .int .i64 (ckG ⟨g.1, g.2.1, g.2.2.1⟩), fun _ => none⟩
theorem sp65_ok : sp65.Ok Tryz.prog 65 true :=
 ⟨by
  rintro ⟨b, a, l, ⟨⟩⟩ K X q1 h
  have h : K (.int .i64 (ckG ⟨b, a, l⟩)) [] := h
  have q1 : bkS ⟨b, a, l⟩ <= lim := q1
  refine F65_ok (b, a, l, ()) K X ⟨?_, ?_⟩
  . have hn := nodes_bk ⟨b, a, l⟩
    have q2 := q1
    rw [lim_eq] at q2
    exact ⟨q1, ⟨Int.le_refl 0, (by omega : (0 : Int) + (nodesS ⟨b, a, l⟩ : Int) <= 1099511627776)⟩, (by omega : (0 : Int) <= 1), (by omega : (1 : Int) + (nodesS ⟨b, a, l⟩ : Int) <= 1099511627776)⟩
  . unfold ckG at h
    dsimp only
    cases hm : (madd ⟨b, a, l⟩ 0 false 1).2 with
    | true => rw [hm] at h; exact h
    | false => rw [hm] at h; exact ⟨q1, h⟩, fun _ _ _ => rfl, fun _ => rfl, fun _ _ => ⟨rfl, rfl⟩⟩
def sp58 : Sp := ⟨S58, L58, bkP, fun g => .int .i64 (ckN ⟨g.1, g.2.1, g.2.2.1⟩), fun _ => none⟩
theorem sp58_ok : sp58.Ok Tryz.prog 58 true :=
 ⟨by
  rintro ⟨b, a, l, ⟨⟩⟩ K X q1 h
  have h : K (.int .i64 (ckN ⟨b, a, l⟩)) [] := h
  have q1 : bkS ⟨b, a, l⟩ <= lim := q1
  refine F58_ok (b, a, l, ()) K X ⟨?_, ?_⟩
  . exact ⟨q1, ⟨(by omega : (0 : Int) <= 20000), (by omega : (20000 : Int) <= 1099511627776)⟩, (by omega : (0 : Int) <= 12), (by omega : (12 : Int) <= 1099511627776)⟩
  . unfold ckN at h
    dsimp only
    rw [bif_dec]
    split at h
    . rename_i h1; rw [if_pos h1]; exact h
    . rename_i h1; rw [if_neg h1]; exact ⟨q1, h⟩, fun _ _ _ => rfl, fun _ => rfl, fun _ _ => ⟨rfl, rfl⟩⟩
end Go.Proofs.YtoclmkbjgmgekaaGreatDoor
namespace Go.Proofs.YtoclmkbjgmgekaaGreatDoor
open Go.RowKit
attribute [local irreducible] dfun dround
def H13 : List (Nat × Hint) := []
def J13 : List (Nat × Hint) := []
abbrev S13 : List Sh := [.leaf]
abbrev L13 : List Lf := [.str]
def F13 (g : prodL L13) (K : Kn) : Prop :=
 sp40.pre (g.1, ()) /\
 bif !decide ((rdT g.1).2.2 = 0) then (
  K (.tu [.ag [.bool false, .str (⟨#[]⟩ : ByteArray), .nil], .int .i64 ((rdT g.1).2.2)]) [])
 else (
  bif decide ((rdT g.1).2.1 < (g.1.size : Int)) then (
  K (.tu [.ag [.bool false, .str (⟨#[]⟩ : ByteArray), .nil], .int .i64 12]) [])
 else (
  K (.tu [.ag [.bool ((rdT g.1).1.isList), .str ((rdT g.1).1.atom), .sl false .sexp ((rdT g.1).1.list)], .int .i64 0]) []))
theorem F13_eq (g : prodL L13) (K X : Kn) : F13 g K = dfun D (gamX [] [(40, false, sp40)]) (isRaw []) H13 J13 23 [.cell 2 42, .tmp 3] (codeOf Tryz.f13) (argsT S13 L13 g) [] (settle0 K) X := by kernel_rfl
theorem F13_ok (g : prodL L13) (K X : Kn) (h : F13 g K) : FCalls Tryz.prog 13 (argsT S13 L13 g) [] K X :=
 FCalls.settle0 (dfun_sound (Γ := gamX [] [(40, false, sp40)]) (mu := isRaw []) (H := H13) (J := J13) D_ok (gamX_ok (rs := []) (l := [(40, false, sp40)]) (fun p hp => by cases hp) (by intro p hp; simp only [List.mem_cons, List.not_mem_nil, or_false] at hp; subst hp; exact sp40_ok)) gamX_det rfl Tryz.func13 (c := codeOf Tryz.f13) rfl Tryz.ntmps13 Tryz.results13 (by unfold enters; rw [Tryz.func13]; kernel_rfl) (Nat.le_of_ble_eq_true (by kernel_rfl)) (c0 := 0) (Eq.mp (F13_eq g K X) h))
def H55 : List (Nat × Hint) := []
def J55 : List (Nat × Hint) := []
abbrev S55 : List Sh := [.ag [.leaf, .leaf, .leaf]]
abbrev L55 : List Lf := [.bool, .str, .sl .sexp]
def F55 (g : prodL L55) (K : Kn) : Prop :=
 sp65.pre (g.1, g.2.1, g.2.2.1, ()) /\
 bif !decide (ckG ⟨g.1, g.2.1, g.2.2.1⟩ = 0) then (
  K (.tu [.int .i64 0, .int .i64 (ckG ⟨g.1, g.2.1, g.2.2.1⟩)]) [])
 else (
  bif g.1 then (
  K (.tu [.int .i64 0, .int .i64 8]) [])
 else (
  sp78.pre (g.2.1, ()) /\
  bif !(canR (bl g.2.1)) then (
   K (.tu [.int .i64 0, .int .i64 3]) [])
  else (
   atoiPre (g.2.1, ()) /\
 Res.go (atoiR g.2.1) (fun a1 =>
 bif decide (a1 < (-1099511627776)) then (
  K (.tu [.int .i64 0, .int .i64 2]) [])
 else (
  bif decide (1099511627776 < a1) then (
  K (.tu [.int .i64 0, .int .i64 2]) [])
 else (
  K (.tu [.int .i64 a1, .int .i64 0]) []))) (fun e2 =>
 K (.tu [.int .i64 0, .int .i64 2]) []))))
theorem F55_eq (g : prodL L55) (K X : Kn) : F55 g K = dfun D (gamX [(79, rw79)] [(65, true, sp65), (78, true, sp78)]) (isRaw [(79, rw79)]) H55 J55 37 [.tmp 2, .tmp 3] (codeOf Tryz.f55) (argsT S55 L55 g) [] (settle0 K) X := by kernel_rfl
theorem F55_ok (g : prodL L55) (K X : Kn) (h : F55 g K) : FCalls Tryz.prog 55 (argsT S55 L55 g) [] K X :=
 FCalls.settle0 (dfun_sound (Γ := gamX [(79, rw79)] [(65, true, sp65), (78, true, sp78)]) (mu := isRaw [(79, rw79)]) (H := H55) (J := J55) D_ok (gamX_ok (rs := [(79, rw79)]) (l := [(65, true, sp65), (78, true, sp78)]) (by intro p hp; simp only [List.mem_cons, List.not_mem_nil, or_false] at hp; subst hp; exact rw79_ok) (by intro p hp; simp only [List.mem_cons, List.not_mem_nil, or_false] at hp; rcases hp with rfl | rfl <;> first | exact sp65_ok | exact sp78_ok)) gamX_det rfl Tryz.func55 (c := codeOf Tryz.f55) rfl Tryz.ntmps55 Tryz.results55 (by unfold enters; rw [Tryz.func55]; kernel_rfl) (Nat.le_of_ble_eq_true (by kernel_rfl)) (c0 := 0) (Eq.mp (F55_eq g K X) h))
def H45 : List (Nat × Hint) := [(11, ⟨[], [(5, .leaf), (6, .leaf), (7, .leaf), (8, .leaf)], [], [.str, .int .i64, .int .i64, .int .i64]⟩)]
def J45 : List (Nat × Hint) := [(12, ⟨[], [(5, .leaf), (6, .leaf), (7, .leaf), (8, .leaf)], [], [.str, .int .i64, .int .i64, .int .i64]⟩)]
abbrev S45 : List Sh := [.ag [.leaf, .leaf, .leaf]]
abbrev L45 : List Lf := [.bool, .str, .sl .sexp]
def F45_J6 (K : Kn) (W2 : prodL [.str, .int .i64, .int .i64, .int .i64] -> Prop) (s_5 : ByteArray) (n_5 sign_5 i_5 : Int) : Prop :=
 W2 (s_5, n_5, sign_5, IntKind.i64.wrap (i_5 + 1), ())
def F45_B2 (K : Kn) (W2 : prodL [.str, .int .i64, .int .i64, .int .i64] -> Prop) (s_1 : ByteArray) (n_1 sign_1 i_1 : Int) : Prop :=
 bif decide (i_1 < (s_1.size : Int)) then (
  StrAt s_1 i_1 fun b3 =>
 bif decide (b3 = 45) then (
  F45_J6 K W2 s_1 n_1 (-1) i_1)
 else (
  StrAt s_1 i_1 fun b4 =>
 bif decide (1099511627776 < IntKind.i64.wrap ((IntKind.i64.wrap (n_1 * 10)) + (IntKind.i64.wrap (IntKind.u8.wrap (b4 - 48))))) then (
  K (.tu [.int .i64 0, .int .i64 2]) [])
 else (
  F45_J6 K W2 s_1 (IntKind.i64.wrap ((IntKind.i64.wrap (n_1 * 10)) + (IntKind.i64.wrap (IntKind.u8.wrap (b4 - 48))))) sign_1 i_1)))
 else (
  K (.tu [.int .i64 (IntKind.i64.wrap (sign_1 * n_1)), .int .i64 0]) [])
def F45_L2 (K : Kn) (g : prodL [.str, .int .i64, .int .i64, .int .i64]) : Prop :=
 LoopW (γ := prodL [.str, .int .i64, .int .i64, .int .i64]) (fun V y => F45_B2 K V y.1 y.2.1 y.2.2.1 y.2.2.2.1) g
def F45 (g : prodL L45) (K : Kn) : Prop :=
 sp58.pre (g.1, g.2.1, g.2.2.1, ()) /\
 bif !decide (ckN ⟨g.1, g.2.1, g.2.2.1⟩ = 0) then (
  K (.tu [.int .i64 0, .int .i64 (ckN ⟨g.1, g.2.1, g.2.2.1⟩)]) [])
 else (
  bif g.1 then (
  K (.tu [.int .i64 0, .int .i64 8]) [])
 else (
  sp59.pre (g.2.1, ()) /\
 bif !(decR (bl g.2.1)) then (
  K (.tu [.int .i64 0, .int .i64 3]) [])
 else (
  F45_L2 K (g.2.1, 0, 1, 0, ()))))
theorem F45_eq (g : prodL L45) (K X : Kn) : F45 g K = dfun D (gamX [] [(58, true, sp58), (59, true, sp59)]) (isRaw []) H45 J45 44 [.tmp 2, .tmp 3] (codeOf Tryz.f45) (argsT S45 L45 g) [] (settle0 K) X := by kernel_rfl
theorem F45_ok (g : prodL L45) (K X : Kn) (h : F45 g K) : FCalls Tryz.prog 45 (argsT S45 L45 g) [] K X :=
 FCalls.settle0 (dfun_sound D_ok (gmX (gmc sp58_ok (gmc sp59_ok gm0))) gamX_det rfl Tryz.func45 (c := codeOf Tryz.f45) rfl Tryz.ntmps45 Tryz.results45 (by unfold enters; rw [Tryz.func45]; kernel_rfl) (Nat.le_of_ble_eq_true (by kernel_rfl)) (c0 := 0) (Eq.mp (F45_eq g K X) h))
def H102 : List (Nat × Hint) := []
def J102 : List (Nat × Hint) := []
abbrev S102 : List Sh := [.leaf]
abbrev L102 : List Lf := [.int .i64]
def spz102 (Z : prodL L102 -> Prop) : Sp := ⟨S102, L102, Z, fun g => .str (decB g.1), fun _ => none⟩
def F102 (Z : prodL L102 -> Prop) (g : prodL L102) (K : Kn) : Prop :=
 bif decide (g.1 < 0) then (
  bif decide (g.1 < (-9223372036854775807)) then (
   K (.str (⟨#[45, 57, 50, 50, 51, 51, 55, 50, 48, 51, 54, 56, 53, 52, 55, 55, 53, 56, 48, 56]⟩ : ByteArray)) [])
  else (
   Z (IntKind.i64.wrap (0 - g.1), ()) /\
  Room ((⟨#[45]⟩ : ByteArray).size + (decB (IntKind.i64.wrap (0 - g.1))).size) 1 (
  K (.str ((⟨#[45]⟩ : ByteArray) ++ (decB (IntKind.i64.wrap (0 - g.1))))) [])))
 else (
  bif decide (g.1 < 10) then (
  K (.str (bStr [(IntKind.u8.wrap (IntKind.i64.wrap (48 + g.1)))])) [])
 else (
  ¬ 10 = (0 : Int) /\
 Z (IntKind.i64.wrap (Int.tdiv g.1 10), ()) /\
 ¬ 10 = (0 : Int) /\
 Room ((decB (IntKind.i64.wrap (Int.tdiv g.1 10))).size + (bStr [(IntKind.u8.wrap (IntKind.i64.wrap (48 + (Int.tmod g.1 10))))]).size) 1 (
 K (.str ((decB (IntKind.i64.wrap (Int.tdiv g.1 10))) ++ (bStr [(IntKind.u8.wrap (IntKind.i64.wrap (48 + (Int.tmod g.1 10))))]))) [])))
theorem F102_eq (Z : prodL L102 -> Prop) (g : prodL L102) (K X : Kn) : F102 Z g K = dfun D (gamX [] [(102, true, spz102 Z)]) (isRaw []) H102 J102 28 [.tmp 2] (codeOf Tryz.f102) (argsT S102 L102 g) [] (settle0 K) X := by kernel_rfl
theorem F102_ok (Z : prodL L102 -> Prop) (hZ : (spz102 Z).Ok Tryz.prog 102 true) (g : prodL L102) (K X : Kn) (h : F102 Z g K) : FCalls Tryz.prog 102 (argsT S102 L102 g) [] K X :=
 FCalls.settle0 (dfun_sound (Γ := gamX [] [(102, true, spz102 Z)]) (mu := isRaw []) (H := H102) (J := J102) D_ok (gamX_ok (rs := []) (l := [(102, true, spz102 Z)]) (fun p hp => by cases hp) (by intro p hp; simp only [List.mem_cons, List.not_mem_nil, or_false] at hp; subst hp; exact hZ)) gamX_det rfl Tryz.func102 (c := codeOf Tryz.f102) rfl Tryz.ntmps102 Tryz.results102 (by unfold enters; rw [Tryz.func102]; kernel_rfl) (Nat.le_of_ble_eq_true (by kernel_rfl)) (c0 := 0) (Eq.mp (F102_eq Z g K X) h))
end Go.Proofs.YtoclmkbjgmgekaaGreatDoor
namespace Go.Proofs.YtoclmkbjgmgekaaGreatDoor
open Go.RowKit
def sp13 : Sp := ⟨S13, L13, fun g => topP g.1, sp10.res, fun _ => none⟩
theorem rdT_le (s : ByteArray) : (rdT s).2.1 <= (s.size : Int) := by
 unfold rdT
 split
 . dsimp only; omega
 . dsimp only; omega
theorem sp13_ok : sp13.Ok Tryz.prog 13 false :=
 ⟨by
  rintro ⟨s, ⟨⟩⟩ K X q1 h
  have h : K (.tu [.ag [.bool (dcT s).1.isList, .str (dcT s).1.atom, .sl false .sexp (dcT s).1.list], .int .i64 (dcT s).2]) [] := h
  refine FCalls.weak (F13_ok (s, ()) (wkK K) X ⟨q1, ?_⟩)
  have hle := rdT_le s
  unfold dcT at h
  rw [bif_ndec, bif_dec]
  dsimp only at *
  split at h
  . rename_i h1
    rw [if_pos h1]
    split at h
    . rename_i h2; rw [if_neg (by omega)]; exact wkK_of h
    . rename_i h2; rw [if_pos (by omega)]; exact wkK_nil2 h
  . rename_i h1; rw [if_neg h1]; exact wkK_nil2 h, fun _ _ _ => rfl, fun _ => rfl, fun h => (by cases h)⟩
def nmG (x : Sx) : Int × Int := nmB (ckG x) x
def nmN (x : Sx) : Int × Int := nmB (ckN x) x
def sp55 : Sp := ⟨S55, L55, bkP, fun g => .tu [.int .i64 (nmG ⟨g.1, g.2.1, g.2.2.1⟩).1, .int .i64 (nmG ⟨g.1, g.2.1, g.2.2.1⟩).2], fun _ => none⟩
theorem sp55_ok : sp55.Ok Tryz.prog 55 true :=
 ⟨by
  rintro ⟨b, a, l, ⟨⟩⟩ K X q1 h
  have h : K (.tu [.int .i64 (nmB (ckG ⟨b, a, l⟩) ⟨b, a, l⟩).1, .int .i64 (nmB (ckG ⟨b, a, l⟩) ⟨b, a, l⟩).2]) [] := h
  have q2 : bkS ⟨b, a, l⟩ <= lim := q1
  have hsz : a.size <= 1073741824 := by have := (small q2).2.1; rw [lim_eq] at this; exact this
  refine F55_ok (b, a, l, ()) K X ⟨q1, ?_⟩
  unfold nmB at h
  dsimp only
  rw [bif_ndec]
  by_cases h0 : ckG ⟨b, a, l⟩ = 0
  . rw [if_pos h0] at h
    rw [if_pos h0]
    cases b with
    | true => exact h
    | false =>
     refine ⟨(by omega : a.size <= 4294967296), ?_⟩
     rw [if_neg (by simp)] at h
     cases hc : canR (bl a) with
     | false => rw [hc] at h; exact h
     | true =>
      rw [hc, if_pos rfl] at h
      rcases atoi_can hc with ⟨e1, e2⟩ | ⟨v, e1, e2⟩
      . refine ⟨⟨(by omega : a.size <= 2147483648), .inr e1⟩, ?_⟩
        unfold atoiR
        rw [e1]
        rw [e2] at h
        exact h
      . refine ⟨⟨(by omega : a.size <= 2147483648), .inl ⟨v, e1⟩⟩, ?_⟩
        unfold atoiR
        rw [e1]
        rw [e2] at h
        show bif decide (v < -1099511627776) then _ else _
        rw [bif_dec, bif_dec]
        by_cases k1 : v < -1099511627776
        . rw [if_pos (.inl k1)] at h; rw [if_pos k1]; exact h
        . rw [if_neg k1]
          by_cases k2 : 1099511627776 < v
          . rw [if_pos (.inr k2)] at h; rw [if_pos k2]; exact h
          . rw [if_neg (fun e => e.elim k1 k2)] at h; rw [if_neg k2]; exact h
  . rw [if_neg h0] at h
    rw [if_neg h0]
    exact h, fun _ _ _ => rfl, fun _ => rfl, fun _ _ => ⟨rfl, rfl⟩⟩
def finK (K : Kn) (m : Nat) (sg : Int) (r : List UInt8) : Prop := if 1099511627776 < dv m r then K (.tu [.int .i64 0, .int .i64 2]) [] else K (.tu [.int .i64 (sg * (dv m r : Int)), .int .i64 0]) []
theorem F45_loop {s : ByteArray} {K : Kn} (hs : s.size <= 4294967296) (h : (digs (bl s) = true /\ finK K 0 1 (bl s)) ∨ ∃ r, bl s = 45 :: r /\ digs r = true /\ finK K 0 (-1) r) : F45_L2 K (s, 0, 1, 0, ()) := by
 have hl := bl_len s
 unfold F45_L2
 refine LoopW.fold (bl s) (fun n (a : Nat × Int) => (s, (a.1 : Int), a.2, (n : Int), ()))
  (fun r n a => (digs r = true /\ a.1 <= 1099511627776 /\ (a.2 = 1 ∨ a.2 = -1) /\ finK K a.1 a.2 r) ∨ ∃ r', r = 45 :: r' /\ digs r' = true /\ a = (0, 1) /\ finK K 0 (-1) r') (a0 := (0, 1)) rfl ?_ (fun a hp W => ?_) (fun n hn r a hr hp W hW => ?_)
 . rcases h with ⟨h1, h2⟩ | ⟨r, h1, h2, h3⟩
   . exact .inl ⟨h1, by decide, .inl rfl, h2⟩
   . exact .inr ⟨r, h1, h2, rfl, h3⟩
 . unfold F45_B2
   rw [bif_dec, if_neg (by dsimp only; omega)]
   rcases hp with ⟨_, k1, k2, k3⟩ | ⟨r', k, _⟩
   . unfold finK at k3
     rw [dv_nil, if_neg (by omega)] at k3
     dsimp only
     rw [wrap64 (by rcases k2 with k2 | k2 <;> rw [k2] <;> omega) (by rcases k2 with k2 | k2 <;> rw [k2] <;> omega)]
     exact k3
   . cases k
 . unfold F45_B2
   have hd : (bl s).drop n = (bl s)[n] :: r := by rw [hr]; exact List.drop_eq_getElem_cons hn
   generalize (bl s)[n] = c at *
   rw [bif_dec, if_pos (by dsimp only; omega)]
   refine StrAt_of hd ?_
   rw [bif_dec]
   have hw : IntKind.i64.wrap ((n : Int) + 1) = ((n + 1 : Nat) : Int) := wrapS (N := 4294967296) (by omega) (by omega)
   rcases hp with ⟨d1, k1, k2, k3⟩ | ⟨r', k, d1, rfl, k3⟩
   . obtain ⟨⟨c1, c2⟩, c3⟩ := (digsC c r).1 d1
     rw [if_neg (by omega)]
     refine StrAt_of hd ?_
     dsimp only
     have e1 : IntKind.u8.wrap ((c.toNat : Int) - 48) = (c.toNat : Int) - 48 := by simp [IntKind.wrap, IntKind.bits, IntKind.signed]; omega
     rw [e1, wrap64 (n := (a.1 : Int) * 10) (by omega) (by omega), wrap64 (n := (c.toNat : Int) - 48) (by omega) (by omega), wrap64 (by omega) (by omega)]
     have e2 : (a.1 : Int) * 10 + ((c.toNat : Int) - 48) = ((10 * a.1 + (c.toNat - 48) : Nat) : Int) := by omega
     rw [e2, bif_dec]
     unfold finK at k3
     rw [dv_cons] at k3
     have hle := dv_le r (10 * a.1 + (c.toNat - 48))
     by_cases hb : 1099511627776 < 10 * a.1 + (c.toNat - 48)
     . rw [if_pos (by omega)] at k3
       rw [if_pos (by omega)]
       exact k3
     . rw [if_neg (by omega)]
       unfold F45_J6
       rw [hw]
       exact hW (10 * a.1 + (c.toNat - 48), a.2) (.inl ⟨c3, (by omega : 10 * a.1 + (c.toNat - 48) <= 1099511627776), k2, k3⟩)
   . simp only [List.cons.injEq] at k
     obtain ⟨rfl, rfl⟩ := k
     rw [if_pos (show (((45 : UInt8).toNat : Nat) : Int) = 45 from rfl)]
     unfold F45_J6
     rw [hw]
     exact hW (0, -1) (.inl ⟨d1, by decide, .inr rfl, k3⟩)
def sp45 : Sp := ⟨S45, L45, bkP, fun g => .tu [.int .i64 (nmN ⟨g.1, g.2.1, g.2.2.1⟩).1, .int .i64 (nmN ⟨g.1, g.2.1, g.2.2.1⟩).2], fun _ => none⟩
theorem fin_num {K : Kn} {l : List UInt8} (hc : canR l = true) (h : K (.tu [.int .i64 (numV l).1, .int .i64 (numV l).2]) []) : (digs l = true /\ finK K 0 1 l) ∨ ∃ r, l = 45 :: r /\ digs r = true /\ finK K 0 (-1) r := by
 simp only [canR, Bool.and_eq_true, Bool.not_eq_true', decide_eq_false_iff_not, Bool.or_eq_true, decide_eq_true_eq] at hc
 obtain ⟨⟨h1, h2⟩, -⟩ := hc
 by_cases h45 : l.head? = some 45
 . simp only [if_pos h45] at h1 h2
   obtain ⟨r, rfl⟩ : ∃ r, l = 45 :: r := by
    cases l with
    | nil => simp at h45
    | cons c r => simp at h45; exact ⟨r, by rw [h45]⟩
   rw [numV_minus] at h
   refine .inr ⟨r, rfl, h1, ?_⟩
   unfold finK
   split at h
   . rename_i k; rw [if_pos k]; exact h
   . rename_i k; rw [if_neg k, Int.neg_mul, Int.one_mul]; exact h
 . simp only [if_neg h45] at h1 h2
   rw [numV_plain h45] at h
   refine .inl ⟨h1, ?_⟩
   unfold finK
   split at h
   . rename_i k; rw [if_pos k]; exact h
   . rename_i k; rw [if_neg k, Int.one_mul]; exact h
theorem sp45_ok : sp45.Ok Tryz.prog 45 true :=
 ⟨by
  rintro ⟨b, a, l, ⟨⟩⟩ K X q1 h
  have h : K (.tu [.int .i64 (nmB (ckN ⟨b, a, l⟩) ⟨b, a, l⟩).1, .int .i64 (nmB (ckN ⟨b, a, l⟩) ⟨b, a, l⟩).2]) [] := h
  have q2 : bkS ⟨b, a, l⟩ <= lim := q1
  have hsz : a.size <= 1073741824 := by have := (small q2).2.1; rw [lim_eq] at this; exact this
  refine F45_ok (b, a, l, ()) K X ⟨q1, ?_⟩
  unfold nmB at h
  dsimp only
  rw [bif_ndec]
  by_cases h0 : ckN ⟨b, a, l⟩ = 0
  . rw [if_pos h0] at h
    rw [if_pos h0]
    cases b with
    | true => exact h
    | false =>
     refine ⟨(by omega : a.size <= 4294967296), ?_⟩
     rw [if_neg (by simp)] at h
     rw [decR_canR]
     cases hc : canR (bl a) with
     | false => rw [hc] at h; exact h
     | true =>
      rw [hc, if_pos rfl] at h
      exact F45_loop (by omega) (fin_num hc h)
  . rw [if_neg h0] at h
    rw [if_neg h0]
    exact h, fun _ _ _ => rfl, fun _ => rfl, fun _ _ => ⟨rfl, rfl⟩⟩
end Go.Proofs.YtoclmkbjgmgekaaGreatDoor
namespace Go.Proofs.YtoclmkbjgmgekaaGreatDoor
open Go.RowKit
attribute [local irreducible] dfun dround
end Go.Proofs.YtoclmkbjgmgekaaGreatDoor
namespace Go.Proofs.YtoclmkbjgmgekaaGreatDoor
open Go.RowKit
theorem w1 : dcT (⟨#[40, 51, 58, 97, 98, 99, 50, 58, 45, 55, 41]⟩ : ByteArray) = (⟨true, ⟨#[]⟩, [⟨false, ⟨#[97, 98, 99]⟩, []⟩, ⟨false, ⟨#[45, 55]⟩, []⟩]⟩, 0) := by kernel_rfl
theorem w2 : (dcT (⟨#[40, 51, 58, 97, 98]⟩ : ByteArray)).2 = 11 := by kernel_rfl
theorem w3 : (dcT (⟨#[48, 51, 58, 97, 98, 99]⟩ : ByteArray)).2 = 12 := by kernel_rfl
theorem w4 : nmG ⟨false, ⟨#[45, 55]⟩, []⟩ = (-7, 0) := by kernel_rfl
end Go.Proofs.YtoclmkbjgmgekaaGreatDoor
namespace Go.Proofs.YtoclmkbjgmgekaaGreatDoor
open Go.RowKit
attribute [local irreducible] dfun dround
end Go.Proofs.YtoclmkbjgmgekaaGreatDoor
namespace Go.Proofs.YtoclmkbjgmgekaaGreatDoor
open Go.RowKit
theorem bk_sx0 : bkS sx0 = 3 := rfl
theorem rdT_bk (s : ByteArray) : bkS (rdT s).1 <= 4 * s.size + 3 := by
 have hs := rdS_sound 12 0 (bl s) (by omega)
 unfold rdT
 cases hr : rdS 12 0 (bl s) with
 | err e => show bkS sx0 <= _; rw [bk_sx0]; omega
 | ok a =>
  obtain ⟨x, k, r⟩ := a
  obtain ⟨⟨p, _, p2, p3⟩, _⟩ := hs.1 x k r hr
  have := bl_len s
  rw [p2, List.length_append] at this
  show bkS x <= _
  omega
theorem dcT_bk (s : ByteArray) : bkS (dcT s).1 <= 4 * s.size + 3 := by
 have := rdT_bk s
 unfold dcT
 split
 . split
   . exact this
   . show bkS sx0 <= _; rw [bk_sx0]; omega
 . show bkS sx0 <= _; rw [bk_sx0]; omega
theorem dec_len : ∀ (k u : Nat), u < 10 ^ (k + 1) -> (Lib.decDigits u).length <= k + 1
 | 0, u, h => by rw [Lib.decDigits_one (by omega)]; simp
 | k + 1, u, h => by
  by_cases hu : u < 10
  . rw [Lib.decDigits_one hu]; simp
  . rw [Lib.decDigits, dif_neg hu, List.length_append]
    have := dec_len k (u / 10) (by rw [Nat.pow_succ] at h; omega)
    simp only [List.length_cons, List.length_nil]; omega
theorem bl_dec (n : Int) : bl (decB n) = Lib.itoa n := bl_mk _
theorem decB_size {n : Int} (h : intP n) : (decB n).size <= 21 := by
 rw [<- bl_len, bl_dec]
 obtain ⟨h1, h2⟩ : -9223372036854775808 <= n /\ n <= 9223372036854775807 := h
 unfold Lib.itoa
 split
 . have := dec_len 19 n.natAbs (by omega)
   simp only [List.length_cons]; omega
 . have := dec_len 19 n.toNat (by omega)
   omega
theorem ck_atom {a : ByteArray} (h : a.size <= 65536) : ckG ⟨false, a, []⟩ = 0 := by
 simp [ckG, madd, shS, shSs]
 omega
end Go.Proofs.YtoclmkbjgmgekaaGreatDoor
namespace Go.Proofs.YtoclmkbjgmgekaaGreatDoor
open Go.RowKit
theorem bl_app (a b : ByteArray) : bl (a ++ b) = bl a ++ bl b := by simp [bl, ByteArray.data_append]
theorem dec_min : decB (-9223372036854775808) = (⟨#[45, 57, 50, 50, 51, 51, 55, 50, 48, 51, 54, 56, 53, 52, 55, 55, 53, 56, 48, 56]⟩ : ByteArray) := by
 apply bl_inj
 rw [bl_dec, Lib.itoa, if_pos (by decide)]
 have h := dec_uniq 19 [57, 50, 50, 51, 51, 55, 50, 48, 51, 54, 56, 53, 52, 55, 55, 53, 56, 48, 56] rfl (by decide) (by simp) (.inl (by decide))
 have e : dv 0 [57, 50, 50, 51, 51, 55, 50, 48, 51, 54, 56, 53, 52, 55, 55, 53, 56, 48, 56] = (-9223372036854775808 : Int).natAbs := by kernel_rfl
 rw [e] at h
 rw [h]
 rfl
def dmu (n : Int) : Nat := if n < 0 then n.natAbs + 1 else n.toNat
theorem dec_neg {n : Int} (h : n < 0) : (⟨#[45]⟩ : ByteArray) ++ decB (-n) = decB n := by
 apply bl_inj
 rw [bl_app, bl_dec, bl_dec, Lib.itoa, Lib.itoa, if_pos h, if_neg (by omega), show (-n).toNat = n.natAbs by omega]
 rfl
theorem dec_one {n : Int} (h0 : ¬ n < 0) (h : n < 10) : bStr [48 + n] = decB n := by
 apply bl_inj
 rw [bl_dec, Lib.itoa, if_neg h0, Lib.decDigits_one (by omega)]
 show [UInt8.ofNat (48 + n).toNat] = _
 rw [show (48 + n).toNat = 48 + n.toNat by omega]
theorem dec_more {n : Int} (h0 : ¬ n < 0) (h : ¬ n < 10) : decB (n / 10) ++ bStr [48 + n % 10] = decB n := by
 apply bl_inj
 rw [bl_app, bl_dec, bl_dec, Lib.itoa, Lib.itoa, if_neg h0, if_neg (by omega)]
 show _ ++ [UInt8.ofNat (48 + n % 10).toNat] = _
 rw [show (48 + n % 10).toNat = 48 + n.toNat % 10 by omega, show (n / 10).toNat = n.toNat / 10 by omega]
 conv => rhs; rw [Lib.decDigits, dif_neg (show ¬ n.toNat < 10 by omega)]
theorem F102_is {Z : prodL L102 -> Prop} {n : Int} {K : Kn} (hn : intP n) (hZ : ∀ m, intP m -> dmu m < dmu n -> Z (m, ())) (h : K (.str (decB n)) []) : F102 Z (n, ()) K := by
 have hn' : -9223372036854775808 <= n /\ n <= 9223372036854775807 := hn
 unfold F102
 dsimp only [prodL, Lf.ty]
 rw [bif_dec]
 by_cases h0 : n < 0
 . rw [if_pos h0, bif_dec]
   by_cases h1 : n < -9223372036854775807
   . rw [if_pos h1]
     obtain rfl : n = -9223372036854775808 := by omega
     rw [dec_min] at h
     exact h
   . rw [if_neg h1, wrap64 (n := 0 - n) (by omega) (by omega), show 0 - n = -n by omega]
     have hm : intP (-n) := (⟨by omega, by omega⟩ : -9223372036854775808 <= -n /\ -n <= 9223372036854775807)
     have hs := decB_size hm
     refine ⟨hZ _ hm (by unfold dmu; rw [if_pos h0, if_neg (by omega)]; omega), ?_, ?_⟩
     . show (1 + (decB (-n)).size) * 1 <= 140737488355328
       omega
     . rw [dec_neg h0]; exact h
 . rw [if_neg h0, bif_dec]
   by_cases h1 : n < 10
   . rw [if_pos h1, wrap64 (n := 48 + n) (by omega) (by omega), show IntKind.u8.wrap (48 + n) = 48 + n by (simp [IntKind.wrap, IntKind.bits, IntKind.signed]; omega), dec_one h0 h1]
     exact h
   . rw [if_neg h1]
     have e1 : Int.tdiv n 10 = n / 10 := Int.tdiv_eq_ediv_of_nonneg (by omega)
     have e2 : Int.tmod n 10 = n % 10 := Int.tmod_eq_emod_of_nonneg (by omega)
     rw [e1, e2, wrap64 (n := n / 10) (by omega) (by omega), wrap64 (n := 48 + n % 10) (by omega) (by omega), show IntKind.u8.wrap (48 + n % 10) = 48 + n % 10 by (simp [IntKind.wrap, IntKind.bits, IntKind.signed]; omega)]
     have hm : intP (n / 10) := (⟨by omega, by omega⟩ : -9223372036854775808 <= n / 10 /\ n / 10 <= 9223372036854775807)
     have hs := decB_size hm
     refine ⟨by decide, hZ _ hm (by unfold dmu; rw [if_neg h0, if_neg (by omega)]; omega), by decide, ?_, ?_⟩
     . show ((decB (n / 10)).size + 1) * 1 <= 140737488355328
       omega
     . rw [dec_more h0 h1]; exact h
def sp102 : Sp := spz102 fun g => intP g.1
theorem sp102_all : ∀ n, (spz102 fun g => intP g.1 /\ dmu g.1 < n).Ok Tryz.prog 102 true
 | 0 => ⟨fun _ _ _ h _ => absurd h.2 (Nat.not_lt_zero _), fun _ _ _ => rfl, fun _ => rfl, fun _ _ => ⟨rfl, rfl⟩⟩
 | n + 1 => ⟨by
   rintro ⟨k, ⟨⟩⟩ K X ⟨q1, q2⟩ h
   have q2 : dmu k < n + 1 := q2
   exact F102_ok _ (sp102_all n) _ _ X (F102_is q1 (fun m h1 h2 => ⟨h1, (by omega : dmu m < n)⟩) h), fun _ _ _ => rfl, fun _ => rfl, fun _ _ => ⟨rfl, rfl⟩⟩
theorem sp102_ok : sp102.Ok Tryz.prog 102 true :=
 ⟨fun g K X hp h => (sp102_all (dmu g.1 + 1)).calls g K X ⟨hp, Nat.lt_succ_self _⟩ h, fun _ _ _ => rfl, fun _ => rfl, fun _ _ => ⟨rfl, rfl⟩⟩
end Go.Proofs.YtoclmkbjgmgekaaGreatDoor
namespace Go.Proofs.YtoclmkbjgmgekaaGreatDoor
open Go.RowKit
attribute [local irreducible] dfun dround
def H105 : List (Nat × Hint) := []
def J105 : List (Nat × Hint) := [(2, ⟨[((2, []), none)], [(0, .leaf), (2, .pt 0 0), (9, .leaf)], [.cells [.leaf, .leaf, .nil]], [.int .i64, .bool, .bool, .str]⟩)]
abbrev S105 : List Sh := [.leaf]
abbrev L105 : List Lf := [.int .i64]
def F105_J2 (K : Kn) (n_1 : Int) (t_1 t1_1 : Bool) (t2_1 : ByteArray) : Prop :=
 bif t_1 then (
  K (.tu [.ag [.bool false, .str (⟨#[]⟩ : ByteArray), .nil], .int .i64 2]) [])
 else (
  sp102.pre (n_1, ()) /\
 K (.tu [.ag [.bool false, .str (decB n_1), .nil], .int .i64 0]) [])
def F105 (g : prodL L105) (K : Kn) : Prop :=
 bif decide (g.1 < (-1099511627776)) then (
  F105_J2 K g.1 true false (⟨#[]⟩ : ByteArray))
 else (
  F105_J2 K g.1 (decide (1099511627776 < g.1)) false (⟨#[]⟩ : ByteArray))
theorem F105_eq (g : prodL L105) (K X : Kn) : F105 g K = dfun D (gamX [] [(102, true, sp102)]) (isRaw []) H105 J105 14 [.cell 2 42, .tmp 3] (codeOf Tryz.f105) (argsT S105 L105 g) [] (settle0 K) X := by kernel_rfl
theorem F105_ok (g : prodL L105) (K X : Kn) (h : F105 g K) : FCalls Tryz.prog 105 (argsT S105 L105 g) [] K X :=
 FCalls.settle0 (dfun_sound (Γ := gamX [] [(102, true, sp102)]) (mu := isRaw []) (H := H105) (J := J105) D_ok (gamX_ok (rs := []) (l := [(102, true, sp102)]) (fun p hp => by cases hp) (by intro p hp; simp only [List.mem_cons, List.not_mem_nil, or_false] at hp; subst hp; exact sp102_ok)) gamX_det rfl Tryz.func105 (c := codeOf Tryz.f105) rfl Tryz.ntmps105 Tryz.results105 (by unfold enters; rw [Tryz.func105]; kernel_rfl) (Nat.le_of_ble_eq_true (by kernel_rfl)) (c0 := 0) (Eq.mp (F105_eq g K X) h))
end Go.Proofs.YtoclmkbjgmgekaaGreatDoor
namespace Go.Proofs.YtoclmkbjgmgekaaGreatDoor
open Go.RowKit
def sp105 : Sp := ⟨S105, L105, fun g => intP g.1, sp97.res, fun _ => none⟩
theorem sp105_ok : sp105.Ok Tryz.prog 105 false :=
 ⟨by
  rintro ⟨n, ⟨⟩⟩ K X q1 h
  have h : K (.tu [.ag [.bool (intB n).1.isList, .str (intB n).1.atom, .sl false .sexp (intB n).1.list], .int .i64 (intB n).2]) [] := h
  refine FCalls.weak (F105_ok (n, ()) (wkK K) X ?_)
  unfold F105
  dsimp only
  rw [bif_dec]
  unfold intB at h
  by_cases h1 : n < -1099511627776
  . rw [if_pos (.inl h1)] at h
    rw [if_pos h1]
    exact wkK_nil2 h
  . rw [if_neg h1]
    unfold F105_J2
    rw [bif_dec]
    by_cases h2 : 1099511627776 < n
    . rw [if_pos (.inr h2)] at h
      rw [if_pos h2]
      exact wkK_nil2 h
    . rw [if_neg (fun e => e.elim h1 h2)] at h
      rw [if_neg h2]
      exact ⟨q1, wkK_nil2 h⟩, fun _ _ _ => rfl, fun _ => rfl, fun h => (by cases h)⟩
mutual
def nn : Sx -> Nat
 | ⟨b, _, l⟩ => if b = false then 1 else 1 + nns l
def nns : List Sx -> Nat
 | [] => 0
 | x :: l => nn x + nns l
end
mutual
def dd : Sx -> Nat
 | ⟨b, _, l⟩ => if b = false then 1 else 1 + dds l
def dds : List Sx -> Nat
 | [] => 0
 | x :: l => max (dd x) (dds l)
end
theorem nn_pos (x : Sx) : 1 <= nn x := by
 obtain ⟨b, a, l⟩ := x
 simp only [nn]
 split <;> omega
theorem dd_pos (x : Sx) : 1 <= dd x := by
 obtain ⟨b, a, l⟩ := x
 simp only [dd]
 split <;> omega
mutual
theorem cnt_small : ∀ (x : Sx) (m d : Int), (nn x : Int) <= m -> (dd x : Int) <= d -> cnt x m d = nn x
 | ⟨b, a, l⟩, m, d, h1, h2 => by
  simp only [nn, dd, cnt] at *
  by_cases hb : b = false
  . rw [if_pos hb] at h1 h2 ⊢
    rw [if_neg (by omega), if_pos hb]; rfl
  . rw [if_neg hb] at h1 h2 ⊢
    rw [if_neg (by omega), if_neg hb, cnts_small l m (d - 1) 1 (by omega) (by omega)]; omega
theorem cnts_small : ∀ (l : List Sx) (m d n : Int), n + (nns l : Int) <= m -> (dds l : Int) <= d -> cnts l m d n = n + nns l
 | [], m, d, n, _, _ => by simp [cnts, nns]
 | x :: l, m, d, n, h1, h2 => by
  simp only [nns, dds, cnts] at *
  rw [if_pos (by omega), cnt_small x (m - n) d (by omega) (by omega), cnts_small l m d _ (by omega) (by omega)]; omega
end
theorem cnts_over : ∀ (l : List Sx) (m d n : Int), m < n -> cnts l m d n = n
 | [], _, _, _, _ => rfl
 | x :: l, m, d, n, h => by simp only [cnts]; rw [if_neg (by omega)]
mutual
theorem cnt_in : ∀ (x : Sx) (m d : Int), 0 <= m -> cnt x m d <= m -> (nn x : Int) <= m /\ (dd x : Int) <= d
 | ⟨b, a, l⟩, m, d, h0, h => by
  simp only [nn, dd, cnt] at *
  by_cases hc : d < 1 ∨ m < 1
  . rw [if_pos hc] at h; omega
  . rw [if_neg hc] at h
    by_cases hb : b = false
    . rw [if_pos hb, if_pos hb]; omega
    . rw [if_neg hb] at h
      rw [if_neg hb, if_neg hb]
      have := cnts_in l m (d - 1) 1 (by omega) (by omega) h
      omega
theorem cnts_in : ∀ (l : List Sx) (m d n : Int), n <= m -> 0 <= d -> cnts l m d n <= m -> n + (nns l : Int) <= m /\ (dds l : Int) <= d
 | [], m, d, n, h0, hd, _ => by simp only [nns, dds]; omega
 | x :: l, m, d, n, h0, hd, h => by
  simp only [nns, dds, cnts] at *
  rw [if_pos h0] at h
  by_cases hc : n + cnt x (m - n) d <= m
  . obtain ⟨k1, k2⟩ := cnt_in x (m - n) d (by omega) (by omega)
    rw [cnt_small x (m - n) d k1 k2] at h hc
    have := cnts_in l m d _ hc hd h
    omega
  . rw [cnts_over l m d _ (by omega)] at h
    omega
end
theorem madds_over : ∀ (l : List Sx) (n d : Int), madds l n true d = (n, true)
 | [], _, _ => rfl
 | x :: l, n, d => by simp only [madds, if_true]
mutual
theorem madd_is : ∀ (x : Sx) (n d : Int), (n + (nn x : Int) <= 20000 /\ (dd x : Int) + d - 1 <= 12 -> madd x n false d = (n + nn x, false)) /\ ((madd x n false d).2 = false -> n + (nn x : Int) <= 20000 /\ (dd x : Int) + d - 1 <= 12)
 | ⟨b, a, l⟩, n, d => by
  simp only [nn, dd, madd]
  by_cases hb : b = false
  . simp only [if_pos hb, Bool.false_or]
    refine ⟨fun h => ?_, fun h => ?_⟩
    . rw [decide_eq_false (by omega)]; rfl
    . have := of_decide_eq_false h; omega
  . simp only [if_neg hb, Bool.false_or]
    by_cases hc : 20000 < n + 1 ∨ 12 < d
    . rw [decide_eq_true hc, madds_over]
      exact ⟨fun h => by omega, fun h => by cases h⟩
    . rw [decide_eq_false hc]
      obtain ⟨k1, k2⟩ := madds_is l (n + 1) (d + 1) (by omega) (by omega)
      refine ⟨fun h => ?_, fun h => ?_⟩
      . rw [k1 (by omega)]
        simp only [Prod.mk.injEq, and_true]; omega
      . have := k2 h; omega
theorem madds_is : ∀ (l : List Sx) (n d : Int), n <= 20000 -> d <= 13 -> (n + (nns l : Int) <= 20000 /\ (dds l : Int) + d - 1 <= 12 -> madds l n false d = (n + nns l, false)) /\ ((madds l n false d).2 = false -> n + (nns l : Int) <= 20000 /\ (dds l : Int) + d - 1 <= 12)
 | [], n, d, hn, hd => by
  simp only [nns, dds, madds]
  exact ⟨fun _ => by simp, fun _ => by omega⟩
 | x :: l, n, d, hn, hd => by
  simp only [nns, dds, madds]
  rw [if_neg (by simp)]
  obtain ⟨k1, k2⟩ := madd_is x n d
  have hp := nn_pos x
  by_cases hx : n + (nn x : Int) <= 20000 /\ (dd x : Int) + d - 1 <= 12
  . rw [k1 hx]
    obtain ⟨m1, m2⟩ := madds_is l (n + nn x) d (by omega) hd
    refine ⟨fun h => ?_, fun h => ?_⟩
    . rw [m1 (by omega)]
      simp only [Prod.mk.injEq, and_true]; omega
    . have := m2 h; omega
  . refine ⟨fun h => by omega, fun h => ?_⟩
    cases hm : (madd x n false d).2 with
    | false => exact absurd (k2 hm) hx
    | true => rw [hm, madds_over] at h; cases h
end
mutual
theorem shape_eq : ∀ x : Sx, shS x = ckR x
 | ⟨b, a, l⟩ => by
  simp only [shS, ckR]
  cases b with
  | false =>
   simp only [if_true, Bool.false_eq_true, false_and, false_or, true_and]
   by_cases hl : 0 < l.length
   . rw [if_pos hl, if_pos hl]
   . rw [if_neg hl, if_neg hl]
     have : l = [] := List.eq_nil_of_length_eq_zero (by omega)
     subst this
     rfl
  | true =>
   simp only [Bool.true_eq_false, if_false, true_and, false_and, or_false]
   by_cases ha : a ≠ ⟨#[]⟩
   . rw [if_pos ha, if_pos ha]
   . rw [if_neg ha, if_neg ha]
     have : a = ⟨#[]⟩ := Classical.not_not.1 ha
     subst this
     rw [if_neg (by decide), shapes_eq l]
theorem shapes_eq : ∀ l : List Sx, shSs l = ckRs l
 | [] => rfl
 | x :: l => by simp only [shSs, ckRs, shape_eq x, shapes_eq l]
end
theorem check_eq (x : Sx) : ckG x = ckN x := by
 unfold ckG ckN
 rw [shape_eq]
 obtain ⟨k1, k2⟩ := madd_is x 0 1
 by_cases h : (0 : Int) + (nn x : Int) <= 20000 /\ (dd x : Int) + 1 - 1 <= 12
 . rw [k1 h, if_neg (by simp), if_neg (by rw [cnt_small x 20000 12 (by omega) (by omega)]; omega)]
 . have h1 : (madd x 0 false 1).2 = true := by
    cases hm : (madd x 0 false 1).2 with
    | false => exact absurd (k2 hm) h
    | true => rfl
   rw [if_pos h1, if_pos]
   refine Int.not_le.1 fun hle => h ?_
   have := cnt_in x 20000 12 (by omega) hle
   omega
end Go.Proofs.YtoclmkbjgmgekaaGreatDoor
namespace Go.Proofs.YtoclmkbjgmgekaaGreatDoor
open Go.RowKit
attribute [local irreducible] dfun dround
end Go.Proofs.YtoclmkbjgmgekaaGreatDoor
namespace Go.Proofs.YtoclmkbjgmgekaaGreatDoor
open Go.RowKit
end Go.Proofs.YtoclmkbjgmgekaaGreatDoor
namespace Go.Proofs.YtoclmkbjgmgekaaGreatDoor
open Go.RowKit
mutual
def encL : Sx -> List UInt8
 | ⟨b, a, l⟩ => if b = false then Lib.decDigits a.size ++ 58 :: bl a else 40 :: (encLs l ++ [41])
def encLs : List Sx -> List UInt8
 | [] => []
 | x :: l => encL x ++ encLs l
end
mutual
theorem encB_bl : ∀ x : Sx, bl (encB x) = encL x
 | ⟨b, a, l⟩ => by
  simp only [encB, encL]
  split
  . rw [bl_app, bl_app, bl_dec, Lib.itoa, if_neg (by omega), List.append_assoc]; rfl
  . rw [bl_app, encBs_bl l]; rfl
theorem encBs_bl : ∀ (l : List Sx) (s : ByteArray), bl (encBs l s) = bl s ++ encLs l
 | [], s => by simp [encBs, encLs]
 | x :: l, s => by
  simp only [encBs, encLs]
  rw [encBs_bl l, bl_app, encB_bl x, List.append_assoc]
end
theorem num_go : ∀ (d : List UInt8) (n : Nat) (r : List UInt8), digs d = true -> dv n d <= 65536 -> 1 <= n -> numR false n (d ++ 58 :: r) = .ok (dv n d, r)
 | [], n, r, _, _, _ => by
  rw [dv_nil, List.nil_append, numR, if_pos ⟨rfl, rfl⟩]
 | c :: d, n, r, h1, h2, h3 => by
  obtain ⟨c1, c2⟩ := (digsC c d).1 h1
  rw [dv_cons] at h2 ⊢
  have := dv_le d (10 * n + (c.toNat - 48))
  rw [List.cons_append, numR, if_neg (by omega), if_neg (by simp; omega), if_neg (by omega)]
  exact num_go d _ r c2 h2 (by omega)
theorem num_dec {u : Nat} (h : u <= 65536) (r : List UInt8) : numR true 0 (Lib.decDigits u ++ 58 :: r) = .ok (u, r) := by
 have h1 := dec_digs u
 have h2 := dec_dv u
 have h3 := dec_head u
 cases hd : Lib.decDigits u with
 | nil => exact absurd hd (dec_ne u)
 | cons c d =>
  rw [hd] at h1 h2 h3
  obtain ⟨c1, c2⟩ := (digsC c d).1 h1
  rw [dv_cons] at h2
  have hle := dv_le d (10 * 0 + (c.toNat - 48))
  rw [List.cons_append, numR, if_neg (by simp), if_neg (by simp; omega), if_neg (by omega)]
  by_cases h48 : c.toNat = 48
  . have hu : u = 0 := h3 (by simp [head48, h48])
    subst hu
    rw [Lib.decDigits_one (by omega)] at hd
    simp only [List.cons.injEq] at hd
    obtain ⟨-, rfl⟩ := hd
    rw [h48, List.nil_append, numR, if_pos ⟨rfl, rfl⟩]
  . rw [num_go d _ r c2 (by omega) (by omega), h2]
theorem atom_enc {a : List UInt8} (h : a.length <= 65536) (r : List UInt8) : atomR (Lib.decDigits a.length ++ 58 :: (a ++ r)) = .ok (a, r) := by
 unfold atomR atomG
 rw [num_dec h]
 simp only
 rw [if_neg (by simp), List.take_left, List.drop_left]
theorem enc_head (x : Sx) : ∃ c l, encL x = c :: l /\ c.toNat ≠ 41 := by
 obtain ⟨b, a, l⟩ := x
 simp only [encL]
 split
 . have h1 := dec_digs a.size
   cases hd : Lib.decDigits a.size with
   | nil => exact absurd hd (dec_ne _)
   | cons c d =>
    rw [hd] at h1
    have := ((digsC c d).1 h1).1
    exact ⟨c, _, rfl, by omega⟩
 . exact ⟨40, _, rfl, by decide⟩
theorem rdL_enc {f : Nat -> List UInt8 -> Res (Sx × Nat × List UInt8) Int} {r : List UInt8} : ∀ (xs : List Sx) (m k : Nat) (acc : List Sx), (encLs xs).length < m ->
  (∀ x ∈ xs, ∀ k' s, k <= k' -> k' + nn x <= k + nns xs -> f k' (encL x ++ s) = .ok (x, k' + nn x, s)) -> rdL f m k (encLs xs ++ 41 :: r) acc = .ok (acc ++ xs, k + nns xs, r)
 | [], m, k, acc, hm, _ => by
  obtain ⟨m, rfl⟩ : ∃ m', m = m' + 1 := ⟨m - 1, by omega⟩
  simp [encLs, rdL, nns]
 | x :: xs, m, k, acc, hm, h => by
  simp only [encLs, List.length_append] at hm
  obtain ⟨m, rfl⟩ : ∃ m', m = m' + 1 := ⟨m - 1, by omega⟩
  obtain ⟨c, t, e, h41⟩ := enc_head x
  have hx := h x (by simp) k (encLs xs ++ 41 :: r) (Nat.le_refl _) (by simp only [nns]; omega)
  simp only [encLs, nns, List.append_assoc]
  rw [e] at hx ⊢
  rw [List.cons_append] at hx ⊢
  simp only [rdL, if_neg h41, hx]
  have hlen : 1 <= (encL x).length := by rw [e]; simp
  rw [rdL_enc xs m (k + nn x) (acc ++ [x]) (by omega) fun y hy k' s h1 h2 => h y (List.mem_cons_of_mem _ hy) k' s (by omega) (by simp only [nns]; omega)]
  simp [Nat.add_assoc]
theorem ck_mem : ∀ {l : List Sx}, ckRs l = 0 -> ∀ x ∈ l, ckR x = 0
 | [], _, x, hx => by simp at hx
 | y :: l, h, x, hx => by
  simp only [ckRs] at h
  split at h
  . rename_i h0
    rcases List.mem_cons.1 hx with rfl | hx
    . exact h0
    . exact ck_mem h x hx
  . rename_i h0; exact absurd h h0
theorem dd_mem : ∀ {l : List Sx}, ∀ x ∈ l, dd x <= dds l
 | [], x, hx => by simp at hx
 | y :: l, x, hx => by
  simp only [dds]
  rcases List.mem_cons.1 hx with rfl | hx
  . omega
  . have := dd_mem x hx; omega
theorem rdS_enc : ∀ (d : Nat) (x : Sx) (k : Nat) (r : List UInt8), ckR x = 0 -> dd x <= d -> k + nn x <= 20000 -> rdS d k (encL x ++ r) = .ok (x, k + nn x, r)
 | 0, x, _, _, _, h, _ => by have := dd_pos x; omega
 | d + 1, ⟨b, a, l⟩, k, r, h1, h2, h3 => by
  simp only [ckR, dd, nn] at h1 h2 h3
  simp only [encL, nn]
  cases b with
  | false =>
   simp only [if_true] at h1 h2 h3 ⊢
   have hl : l = [] := by
    by_cases hl : 0 < l.length
    . rw [if_pos hl] at h1; cases h1
    . exact List.eq_nil_of_length_eq_zero (by omega)
   subst hl
   have ha : (bl a).length <= 65536 := by
    rw [bl_len]
    by_cases ha : 65536 < a.size
    . rw [if_neg (by simp), if_pos ha] at h1; cases h1
    . omega
   have hat := atom_enc ha r
   have hd := dec_digs a.size
   rw [bl_len] at hat
   rw [List.append_assoc, List.cons_append]
   cases hc : Lib.decDigits a.size with
   | nil => exact absurd hc (dec_ne _)
   | cons c t =>
    rw [hc] at hat hd
    have := ((digsC c t).1 hd).1
    rw [List.cons_append] at hat ⊢
    rw [rdS, if_neg (by omega), if_pos (by omega), hat]
    simp [mk_bl]
  | true =>
   simp only [Bool.true_eq_false, if_false] at h1 h2 h3 ⊢
   have ha : a = ⟨#[]⟩ := Classical.not_not.1 fun ha => by rw [if_pos ha] at h1; cases h1
   subst ha
   rw [if_neg (by simp)] at h1
   have he : (40 : UInt8) :: (encLs l ++ [41]) ++ r = 40 :: (encLs l ++ 41 :: r) := by simp
   rw [he, rdS, if_neg (by omega), if_neg (by decide), rdL_enc l _ (k + 1) [] (by simp; omega) fun x hx k' s q1 q2 => rdS_enc d x k' s (ck_mem h1 x hx) (by have := dd_mem x hx; omega) (by omega)]
   simp [Nat.add_assoc]
theorem ck_valid {x : Sx} (h : ckG x = 0) : ckR x = 0 /\ nn x <= 20000 /\ dd x <= 12 := by
 unfold ckG at h
 obtain ⟨_, k2⟩ := madd_is x 0 1
 split at h
 . cases h
 . rename_i hm
   have := k2 (by simpa using hm)
   rw [shape_eq] at h
   exact ⟨h, by omega, by omega⟩
theorem read_enc {x : Sx} (h : ckG x = 0) (r : List UInt8) : rdS 12 0 (encL x ++ r) = .ok (x, nn x, r) := by
 obtain ⟨h1, h2, h3⟩ := ck_valid h
 rw [rdS_enc 12 x 0 r h1 h3 (by omega), Nat.zero_add]
end Go.Proofs.YtoclmkbjgmgekaaGreatDoor
namespace Go.Proofs.YtoclmkbjgmgekaaGreatDoor
open Go.RowKit
abbrev Rdr := Nat -> List UInt8 -> Res (Sx × Nat × List UInt8) Int
theorem rd_err {l : List UInt8} {e : Int} (h : rdS 12 0 l = .err e) : e = 11 ∨ e = 12 := (rdS_sound 12 0 l (by omega)).2 e h
end Go.Proofs.YtoclmkbjgmgekaaGreatDoor
namespace Go.Proofs.YtoclmkbjgmgekaaGreatDoor
open Go.RowKit
theorem numR_inv : ∀ (l : List UInt8) (first : Bool) (n m : Nat) (r : List UInt8), numR first n l = .ok (m, r) -> ∃ d, digs d = true /\ l = d ++ 58 :: r /\ m = dv n d /\ (first = true -> d ≠ []) /\ (first = false -> n = 0 -> d = [])
 | [], _, _, _, _, h => by simp [numR] at h
 | c :: l, first, n, m, r, h => by
  simp only [numR] at h
  split at h
  . rename_i h0
    simp only [Res.ok.injEq, Prod.mk.injEq] at h
    obtain ⟨rfl, rfl⟩ := h
    have : c = 58 := UInt8.toNat_inj.1 h0.1
    subst this
    exact ⟨[], rfl, rfl, (dv_nil _).symm, fun e => (by rw [h0.2] at e; cases e), fun _ _ => rfl⟩
  . split at h
    . cases h
    . rename_i h1
      split at h
      . cases h
      . obtain ⟨d, d1, d2, d3, _, d5⟩ := numR_inv l false _ m r h
        refine ⟨c :: d, (digsC c d).2 ⟨by omega, d1⟩, by rw [d2]; rfl, by rw [dv_cons]; exact d3, fun _ => by simp, fun e1 e2 => absurd (Or.inr (Or.inr ⟨e1, e2⟩)) h1⟩
theorem num_inv {l : List UInt8} {m : Nat} {r : List UInt8} (h : numR true 0 l = .ok (m, r)) : l = Lib.decDigits m ++ 58 :: r /\ m <= 65536 := by
 have hm := (numR_ok _ _ _ _ _ h).2 (by omega)
 cases l with
 | nil => simp [numR] at h
 | cons c l =>
  simp only [numR] at h
  rw [if_neg (by simp)] at h
  split at h
  . cases h
  . rename_i h1
    split at h
    . cases h
    . obtain ⟨d, d1, d2, d3, _, d5⟩ := numR_inv l false _ m r h
      have hc : digs (c :: d) = true := (digsC c d).2 ⟨by omega, d1⟩
      have e : dv 0 (c :: d) = m := by rw [dv_cons]; exact d3.symm
      have hu := dec_uniq _ (c :: d) rfl hc (by simp) (by
       by_cases h48 : c.toNat = 48
       . right
         rw [d5 rfl (by omega), show c = 48 from UInt8.toNat_inj.1 h48]
       . left
         simp [head48, h48])
      rw [e] at hu
      rw [hu, d2]
      exact ⟨rfl, hm⟩
theorem atom_inv {l a r : List UInt8} (h : atomR l = .ok (a, r)) : l = Lib.decDigits a.length ++ 58 :: (a ++ r) /\ a.length <= 65536 := by
 unfold atomR atomG at h
 cases hn : numR true 0 l with
 | err e => rw [hn] at h; cases h
 | ok v =>
  obtain ⟨n, q⟩ := v
  rw [hn] at h
  simp only at h
  by_cases hq : q.length < n
  . rw [if_pos hq] at h; cases h
  . rw [if_neg hq] at h
    simp only [Res.ok.injEq, Prod.mk.injEq] at h
    obtain ⟨rfl, rfl⟩ := h
    obtain ⟨k1, k2⟩ := num_inv hn
    have e : (q.take n).length = n := by rw [List.length_take]; omega
    rw [e, List.take_append_drop]
    exact ⟨k1, k2⟩
def Canon (d : Nat) (f : Rdr) : Prop := ∀ k l x k' r, f k l = .ok (x, k', r) -> l = encL x ++ r /\ ckR x = 0 /\ dd x <= d /\ k' = k + nn x
theorem rdL_canon {d : Nat} {f : Rdr} (hf : Canon d f) : ∀ (m k : Nat) (l : List UInt8) (acc xs : List Sx) (k' : Nat) (r : List UInt8), rdL f m k l acc = .ok (xs, k', r) ->
  ∃ ys, xs = acc ++ ys /\ l = encLs ys ++ 41 :: r /\ ckRs ys = 0 /\ dds ys <= d /\ k' = k + nns ys
 | 0, _, _, _, _, _, _, h => by simp [rdL] at h
 | m + 1, k, [], acc, xs, k', r, h => by simp [rdL] at h
 | m + 1, k, c :: l, acc, xs, k', r, h => by
  simp only [rdL] at h
  split at h
  . rename_i h41
    simp only [Res.ok.injEq, Prod.mk.injEq] at h
    obtain ⟨rfl, rfl, rfl⟩ := h
    have : c = 41 := UInt8.toNat_inj.1 h41
    subst this
    exact ⟨[], by simp, rfl, rfl, Nat.zero_le _, rfl⟩
  . cases hx : f k (c :: l) with
    | err e => rw [hx] at h; cases h
    | ok a =>
     obtain ⟨x, k1, r1⟩ := a
     rw [hx] at h
     obtain ⟨e1, e2, e3, e4⟩ := hf _ _ _ _ _ hx
     obtain ⟨ys, y1, y2, y3, y4, y5⟩ := rdL_canon hf m k1 r1 _ xs k' r h
     refine ⟨x :: ys, by rw [y1]; simp, by rw [e1, y2]; simp [encLs], ?_, ?_, ?_⟩
     . simp only [ckRs]; rw [if_pos e2]; exact y3
     . simp only [dds]; omega
     . simp only [nns]; omega
theorem rdS_canon : ∀ d : Nat, Canon d (rdS d)
 | 0 => fun k l x k' r h => by
  cases l with
  | nil => simp [rdS] at h
  | cons c l => simp [rdS] at h
 | d + 1 => fun k l x k' r h => by
  cases l with
  | nil => simp [rdS] at h
  | cons c l =>
   simp only [rdS] at h
   split at h
   . cases h
   . split at h
     . cases ha : atomR (c :: l) with
       | err e => rw [ha] at h; cases h
       | ok v =>
        obtain ⟨a, q⟩ := v
        rw [ha] at h
        simp only [Res.ok.injEq, Prod.mk.injEq] at h
        obtain ⟨rfl, rfl, rfl⟩ := h
        obtain ⟨k1, k2⟩ := atom_inv ha
        have hsz : (⟨a.toArray⟩ : ByteArray).size = a.length := by rw [<- bl_len, bl_mk]
        refine ⟨?_, ?_, ?_, ?_⟩
        . rw [k1]
          simp only [encL, if_true, hsz, bl_mk, List.append_assoc, List.cons_append]
        . simp only [ckR, if_true, List.length_nil]
          rw [if_neg (by omega), if_neg (by omega)]
        . simp [dd]
        . simp [nn]
     . rename_i h40
       cases ha : rdL (rdS d) (l.length + 1) (k + 1) l [] with
       | err e => rw [ha] at h; cases h
       | ok v =>
        obtain ⟨xs, k1, q⟩ := v
        rw [ha] at h
        simp only [Res.ok.injEq, Prod.mk.injEq] at h
        obtain ⟨rfl, rfl, rfl⟩ := h
        obtain ⟨ys, y1, y2, y3, y4, y5⟩ := rdL_canon (rdS_canon d) _ _ _ _ _ _ _ ha
        rw [List.nil_append] at y1
        subst y1
        have : c = 40 := UInt8.toNat_inj.1 (Classical.not_not.1 h40)
        subst this
        refine ⟨?_, ?_, ?_, ?_⟩
        . rw [y2]
          simp [encL]
        . simp [ckR, y3]
        . simp only [dd, Bool.true_eq_false, if_false]; omega
        . simp only [nn, Bool.true_eq_false, if_false]; omega
theorem read_canon {l : List UInt8} {x : Sx} {k : Nat} {r : List UInt8} (h : rdS 12 0 l = .ok (x, k, r)) : l = encL x ++ r /\ ckG x = 0 := by
 obtain ⟨e1, e2, e3, e4⟩ := rdS_canon 12 _ _ _ _ _ h
 refine ⟨e1, ?_⟩
 have hk : k <= 20000 := ((rdS_sound 12 0 l (by omega)).1 x k r h).2.2
 unfold ckG
 rw [(madd_is x 0 1).1 ⟨by omega, by omega⟩, if_neg (by simp), shape_eq]
 exact e2
end Go.Proofs.YtoclmkbjgmgekaaGreatDoor
namespace Go.Proofs.YtoclmkbjgmgekaaGreatDoor
open Go.RowKit
attribute [local irreducible] dfun dround
def H85 : List (Nat × Hint) := [(5, ⟨[((1, []), none)], [(1, .pt 0 0), (3, .leaf), (4, .leaf)], [.cells [.leaf, .leaf, .leaf]], [.str, .int .i64, .bool, .str, .sl .sexp]⟩)]
def J85 : List (Nat × Hint) := []
abbrev S85 : List Sh := [.ag [.leaf, .leaf, .leaf]]
abbrev L85 : List Lf := [.bool, .str, .sl .sexp]
def spz85 (Z : prodL L85 -> Prop) : Sp := ⟨S85, L85, Z, fun g => .str (encB ⟨g.1, g.2.1, g.2.2.1⟩), fun _ => none⟩
def F85_B2 (K : Kn) (Z : prodL L85 -> Prop) (W2 : prodL [.str, .int .i64, .bool, .str, .sl .sexp] -> Prop) (s_1 : ByteArray) (i_1 : Int) (x1_1 : Bool) (x2_1 : ByteArray) (x3_1 : List Sx) : Prop :=
 bif decide (i_1 < (x3_1.length : Int)) then (
  At x3_1 i_1 fun u3 =>
 Z (u3.isList, u3.atom, u3.list, ()) /\
 Room (s_1.size + (encB ⟨u3.isList, u3.atom, u3.list⟩).size) 1 (
 W2 (s_1 ++ (encB ⟨u3.isList, u3.atom, u3.list⟩), IntKind.i64.wrap (i_1 + 1), x1_1, x2_1, x3_1, ())))
 else (
  Room (s_1.size + (⟨#[41]⟩ : ByteArray).size) 1 (
 K (.str (s_1 ++ (⟨#[41]⟩ : ByteArray))) []))
def F85_L2 (K : Kn) (Z : prodL L85 -> Prop) (g : prodL [.str, .int .i64, .bool, .str, .sl .sexp]) : Prop :=
 LoopW (γ := prodL [.str, .int .i64, .bool, .str, .sl .sexp]) (fun V y => F85_B2 K Z V y.1 y.2.1 y.2.2.1 y.2.2.2.1 y.2.2.2.2.1) g
def F85 (Z : prodL L85 -> Prop) (g : prodL L85) (K : Kn) : Prop :=
 bif !g.1 then (
  sp102.pre ((g.2.1.size : Int), ()) /\
  Room ((decB (g.2.1.size : Int)).size + (⟨#[58]⟩ : ByteArray).size) 1 (
  Room (((decB (g.2.1.size : Int)) ++ (⟨#[58]⟩ : ByteArray)).size + g.2.1.size) 1 (
  K (.str (((decB (g.2.1.size : Int)) ++ (⟨#[58]⟩ : ByteArray)) ++ g.2.1)) [])))
 else (
  F85_L2 K Z ((⟨#[40]⟩ : ByteArray), 0, g.1, g.2.1, g.2.2.1, ()))
theorem F85_eq (Z : prodL L85 -> Prop) (g : prodL L85) (K X : Kn) : F85 Z g K = dfun D (gamX [] [(102, true, sp102), (85, true, spz85 Z)]) (isRaw []) H85 J85 33 [.tmp 2] (codeOf Tryz.f85) (argsT S85 L85 g) [] (settle0 K) X := by kernel_rfl
theorem F85_ok (Z : prodL L85 -> Prop) (hZ : (spz85 Z).Ok Tryz.prog 85 true) (g : prodL L85) (K X : Kn) (h : F85 Z g K) : FCalls Tryz.prog 85 (argsT S85 L85 g) [] K X :=
 FCalls.settle0 (dfun_sound D_ok (gmX (gmc sp102_ok (gmc hZ gm0))) gamX_det rfl Tryz.func85 (c := codeOf Tryz.f85) rfl Tryz.ntmps85 Tryz.results85 (by unfold enters; rw [Tryz.func85]; kernel_rfl) (Nat.le_of_ble_eq_true (by kernel_rfl)) (c0 := 0) (Eq.mp (F85_eq Z g K X) h))
end Go.Proofs.YtoclmkbjgmgekaaGreatDoor
namespace Go.Proofs.YtoclmkbjgmgekaaGreatDoor
open Go.RowKit
mutual
theorem encL_len : ∀ x : Sx, bkS x <= lim -> (encL x).length <= 22 * bkS x
 | ⟨b, a, l⟩, h => by
  simp only [bkS] at h ⊢
  simp only [encL]
  have hl := lim_eq
  split
  . have := dec_len 19 a.size (by omega)
    have := bl_len a
    simp only [List.length_append, List.length_cons]; omega
  . have := encLs_len l (by omega)
    simp only [List.length_append, List.length_cons, List.length_nil]; omega
theorem encLs_len : ∀ l : List Sx, bkSs l <= lim -> (encLs l).length <= 22 * bkSs l
 | [], _ => by simp [encLs, bkSs]
 | x :: l, h => by
  simp only [bkSs] at h ⊢
  have := encL_len x (by omega)
  have := encLs_len l (by omega)
  simp only [encLs, List.length_append]; omega
end
theorem encB_size {x : Sx} (h : bkS x <= lim) : (encB x).size <= 22 * bkS x := by
 rw [<- bl_len, encB_bl]; exact encL_len x h
theorem size_app (a b : ByteArray) : (a ++ b).size = a.size + b.size := ByteArray.size_append
theorem F85_is {Z : prodL L85 -> Prop} {b : Bool} {a : ByteArray} {l : List Sx} {K : Kn} (hk : bkS ⟨b, a, l⟩ <= lim) (hZ : ∀ x ∈ l, Z (x.isList, x.atom, x.list, ())) (h : K (.str (encB ⟨b, a, l⟩)) []) : F85 Z (b, a, l, ()) K := by
 obtain ⟨hs, hsz, hbl, _⟩ := small hk
 have hl := lim_eq
 unfold F85
 simp only [encB] at h
 dsimp only [Lf.ty, prodL] at h ⊢
 cases b
 . simp only [if_true, Bool.not_false, cond_true] at h ⊢
   have hn : intP (a.size : Int) := (⟨by omega, by omega⟩ : -9223372036854775808 <= (a.size : Int) /\ (a.size : Int) <= 9223372036854775807)
   have hd := decB_size hn
   refine ⟨hn, ?_, ?_, h⟩
   . show ((decB (a.size : Int)).size + 1) * 1 <= 140737488355328
     omega
   . rw [size_app]
     show ((decB (a.size : Int)).size + 1 + a.size) * 1 <= 140737488355328
     omega
 . simp only [Bool.true_eq_false, if_false, Bool.not_true, cond_false] at h ⊢
   unfold F85_L2
   refine LoopW.fold l (fun n (s : ByteArray) => (s, (n : Int), true, a, l, ())) (fun r _ s => K (.str (encBs r s ++ ⟨#[41]⟩)) [] /\ s.size + 22 * bkSs r <= 22 * lim + 1) (a0 := ⟨#[40]⟩) rfl ⟨h, by show 1 + _ <= _; omega⟩ (fun s hp W => ?_) (fun n hn r s hr hp W hW => ?_)
   . obtain ⟨p1, p2⟩ := hp
     unfold F85_B2
     rw [bif_dec, if_neg (by dsimp only; omega)]
     refine ⟨?_, p1⟩
     show (s.size + 1) * 1 <= 140737488355328
     simp only [bkSs] at p2
     omega
   . obtain ⟨p1, p2⟩ := hp
     unfold F85_B2
     rw [bif_dec, if_pos (by dsimp only; omega)]
     have hx : bkS l[n] <= bkSs l := mem_bk (List.getElem_mem hn)
     have hz := encB_size (x := l[n]) (by omega)
     simp only [bkSs] at p2
     refine At_of hn ⟨hZ _ (List.getElem_mem hn), ?_, ?_⟩
     . rw [Sx.eta]
       dsimp only
       omega
     . rw [Sx.eta, wrapS hn hs]
       refine hW (s ++ encB l[n]) ⟨p1, ?_⟩
       rw [size_app]; omega
def sp85 : Sp := spz85 bkP
theorem sp85_all : ∀ n, (spz85 fun g => bkP g /\ nodesS ⟨g.1, g.2.1, g.2.2.1⟩ < n).Ok Tryz.prog 85 true
 | 0 => ⟨fun _ _ _ h _ => absurd h.2 (Nat.not_lt_zero _), fun _ _ _ => rfl, fun _ => rfl, fun _ _ => ⟨rfl, rfl⟩⟩
 | n + 1 => ⟨fun g _ X hp h => F85_ok _ (sp85_all n) _ _ X (F85_is hp.1 (fun x hx => ⟨((small hp.1).2.2.2 x hx).1, by have := ((small hp.1).2.2.2 x hx).2; have := hp.2; dsimp only at *; omega⟩) h), fun _ _ _ => rfl, fun _ => rfl, fun _ _ => ⟨rfl, rfl⟩⟩
theorem sp85_ok : sp85.Ok Tryz.prog 85 true :=
 ⟨fun g K X hp h => (sp85_all (nodesS ⟨g.1, g.2.1, g.2.2.1⟩ + 1)).calls g K X ⟨hp, Nat.lt_succ_self _⟩ h, fun _ _ _ => rfl, fun _ => rfl, fun _ _ => ⟨rfl, rfl⟩⟩
def enT (x : Sx) : ByteArray × Int := if ckG x = 0 then (encB x, 0) else (⟨#[]⟩, ckG x)
end Go.Proofs.YtoclmkbjgmgekaaGreatDoor
namespace Go.Proofs.YtoclmkbjgmgekaaGreatDoor
open Go.RowKit
attribute [local irreducible] dfun dround
def H62 : List (Nat × Hint) := []
def J62 : List (Nat × Hint) := []
abbrev S62 : List Sh := [.ag [.leaf, .leaf, .leaf]]
abbrev L62 : List Lf := [.bool, .str, .sl .sexp]
def F62 (g : prodL L62) (K : Kn) : Prop :=
 sp58.pre (g.1, g.2.1, g.2.2.1, ()) /\
 bif !decide (ckN ⟨g.1, g.2.1, g.2.2.1⟩ = 0) then (
  K (.tu [.str (⟨#[]⟩ : ByteArray), .int .i64 (ckN ⟨g.1, g.2.1, g.2.2.1⟩)]) [])
 else (
  sp85.pre (g.1, g.2.1, g.2.2.1, ()) /\
 K (.tu [.str (encB ⟨g.1, g.2.1, g.2.2.1⟩), .int .i64 0]) [])
theorem F62_eq (g : prodL L62) (K X : Kn) : F62 g K = dfun D (gamX [] [(58, true, sp58), (85, true, sp85)]) (isRaw []) H62 J62 12 [.tmp 2, .tmp 3] (codeOf Tryz.f62) (argsT S62 L62 g) [] (settle0 K) X := by kernel_rfl
theorem F62_ok (g : prodL L62) (K X : Kn) (h : F62 g K) : FCalls Tryz.prog 62 (argsT S62 L62 g) [] K X :=
 FCalls.settle0 (dfun_sound D_ok (gmX (gmc sp58_ok (gmc sp85_ok gm0))) gamX_det rfl Tryz.func62 (c := codeOf Tryz.f62) rfl Tryz.ntmps62 Tryz.results62 (by unfold enters; rw [Tryz.func62]; kernel_rfl) (Nat.le_of_ble_eq_true (by kernel_rfl)) (c0 := 0) (Eq.mp (F62_eq g K X) h))
end Go.Proofs.YtoclmkbjgmgekaaGreatDoor
namespace Go.Proofs.YtoclmkbjgmgekaaGreatDoor
open Go.RowKit
def sp62 : Sp := ⟨S62, L62, bkP, fun g => .tu [.str (enT ⟨g.1, g.2.1, g.2.2.1⟩).1, .int .i64 (enT ⟨g.1, g.2.1, g.2.2.1⟩).2], fun _ => none⟩
theorem sp62_ok : sp62.Ok Tryz.prog 62 true :=
 ⟨by
  rintro ⟨b, a, l, ⟨⟩⟩ K X q1 h
  have h : K (.tu [.str (enT ⟨b, a, l⟩).1, .int .i64 (enT ⟨b, a, l⟩).2]) [] := h
  refine F62_ok (b, a, l, ()) K X ⟨q1, ?_⟩
  unfold enT at h
  rw [check_eq] at h
  dsimp only
  rw [bif_ndec]
  by_cases h0 : ckN ⟨b, a, l⟩ = 0
  . rw [if_pos h0] at h
    rw [if_pos h0]
    exact ⟨q1, h⟩
  . rw [if_neg h0] at h
    rw [if_neg h0]
    exact h, fun _ _ _ => rfl, fun _ => rfl, fun _ _ => ⟨rfl, rfl⟩⟩
def EncodeOk : Prop := sp62.Ok Tryz.prog 50 true
def sp50 : Sp := ⟨S62, L62, fun g => bkP g /\ EncodeOk, sp62.res, fun _ => none⟩
theorem sp50_ok : sp50.Ok Tryz.prog 50 true :=
 ⟨fun g K X hp h => hp.2.calls g K X hp.1 h, fun _ _ _ => rfl, fun _ => rfl, fun _ _ => ⟨rfl, rfl⟩⟩
end Go.Proofs.YtoclmkbjgmgekaaGreatDoor
namespace Go.Proofs.YtoclmkbjgmgekaaGreatDoor
open Go.RowKit
attribute [local irreducible] dfun dround
end Go.Proofs.YtoclmkbjgmgekaaGreatDoor
namespace Go.Proofs.YtoclmkbjgmgekaaGreatDoor
open Go.RowKit
theorem en_ok {x : Sx} (h : ckG x = 0) : enT x = (encB x, 0) := by unfold enT; rw [if_pos h]
theorem en_no {x : Sx} (h : ckG x ≠ 0) : enT x = (⟨#[]⟩, ckG x) := by unfold enT; rw [if_neg h]
theorem rdT_ok {s : ByteArray} {x : Sx} {k : Nat} {r : List UInt8} (h : rdS 12 0 (bl s) = .ok (x, k, r)) : rdT s = (x, (s.size : Int) - (r.length : Int), 0) := by unfold rdT; rw [h]
theorem rdT_no {s : ByteArray} {e : Int} (h : rdS 12 0 (bl s) = .err e) : rdT s = (sx0, 0, e) := by unfold rdT; rw [h]; rfl
theorem rdT_enc {x : Sx} (h : ckG x = 0) (r : ByteArray) : rdT (encB x ++ r) = (x, ((encB x).size : Int), 0) := by
 rw [rdT_ok (s := encB x ++ r) (by rw [bl_app, encB_bl]; exact read_enc h (bl r)), size_app, bl_len]
 simp only [Prod.mk.injEq, true_and, and_true]; omega
theorem dcT_enc {x : Sx} (h : ckG x = 0) : dcT (encB x) = (x, 0) := by
 have := rdT_enc h ⟨#[]⟩
 have e : encB x ++ (⟨#[]⟩ : ByteArray) = encB x := by apply bl_inj; rw [bl_app]; exact List.append_nil _
 rw [e] at this
 unfold dcT
 rw [this, if_pos rfl, if_pos rfl]
end Go.Proofs.YtoclmkbjgmgekaaGreatDoor
namespace Go.Proofs.YtoclmkbjgmgekaaGreatDoor
open Go.RowKit
end Go.Proofs.YtoclmkbjgmgekaaGreatDoor
namespace Go.Proofs.YtoclmkbjgmgekaaGreatDoor
open Go.RowKit
end Go.Proofs.YtoclmkbjgmgekaaGreatDoor
namespace Go.Proofs.YtoclmkbjgmgekaaGreatDoor
open Go.RowKit Go.Shelf
def laysCopy_ren : Go.Shelf.Ren := ⟨fun | 240 => 106 | 276 => 118 | n => n, fun | 70 => 108 | 72 => 110 | 37 => 101 | 164 => 157 | n => n, fun n => n⟩
theorem laysCopy : Go.Proofs.Lays.n240 Tryz.prog laysCopy_ren := {
 mixed := by kernel_rfl
 f240 := Tryz.func106.trans (congrArg some (by kernel_rfl))
 f276 := Tryz.func118.trans (congrArg some (by kernel_rfl))
 t0 := Tryz.underlying0
 a0 := Tryz.isAgg0
 z0 := Tryz.sizeOf0
 v0 := Tryz.zeroValue0
 t4 := Tryz.underlying4
 a4 := Tryz.isAgg4
 z4 := Tryz.sizeOf4
 v4 := Tryz.zeroValue4
 t9 := Tryz.underlying9
 a9 := Tryz.isAgg9
 z9 := Tryz.sizeOf9
 v9 := Tryz.zeroValue9
 t20 := Tryz.underlying20
 a20 := Tryz.isAgg20
 z20 := Tryz.sizeOf20
 v20 := Tryz.zeroValue20
 t70 := Tryz.underlying108
 a70 := Tryz.isAgg108
 z70 := Tryz.sizeOf108
 v70 := Tryz.zeroValue108
 t72 := Tryz.underlying110
 a72 := Tryz.isAgg110
 z72 := Tryz.sizeOf110
 v72 := Tryz.zeroValue110
 t164 := Tryz.underlying157
 a164 := Tryz.isAgg157
 z164 := Tryz.sizeOf157
 v164 := Tryz.zeroValue157 }
theorem copyX : Builder.X72 Tryz.prog laysCopy_ren := { sizeBuilder := by kernel_rfl, liesBuilder := by kernel_rfl }
abbrev bdrO : List ObSh := [.cells [.pt 0 0, .oa .u8 1], .arr .u8]
def rw106 : Raw := ⟨[.pt 0 0], bdrO, [.sl .u8], 0, fun g K _ => K (.tu []) [some (.cells [.pt 0 0, .oa .u8 1 0]), some (.arr 0 .u8 g.1)]⟩
theorem rw106_ok : rw106.Ok Tryz.prog 106 := by
 rintro ⟨bs, ⟨⟩⟩ K X h g w hg
 have h : K (.tu []) [some (.cells [.pt 0 0, .oa .u8 1 0]), some (.arr 0 .u8 bs)] := h
 have hg : Good g [some (.cells [.pt 0 0, .oa .u8 1 0]), some (.arr 0 .u8 bs)] w := hg
 refine Atc.of (by kernel_rfl) fun args hr => ?_
 obtain ⟨x, rfl, hx⟩ := rl_one hr
 obtain ⟨oi, o1, _, o3⟩ := hg.obj 0 _ rfl
 have o1 : g.ob 0 0 = some oi := o1
 have hx : R g (.pt 0 0) x := hx
 cases hx with
 | pt _ _ oi' h1 =>
  rw [o1] at h1
  simp only [Option.some.injEq] at h1
  subst h1
  rcases o3 with o3 | ⟨_, blk, E, fr, p1, _, p3, _⟩
  . cases o3.1
  have p1 : w.heap[oi.b]? = some (.cells blk E fr) := p1
  obtain ⟨y, y1, _, y3⟩ := p3.at_ 0 _ rfl
  have hy : y = .pointer (some ⟨oi.b, 0, none⟩) := by
   cases y3 with
   | pt _ _ oi' h1 =>
    rw [o1] at h1
    simp only [Option.some.injEq] at h1
    subst h1
    rfl
  refine (Any.Builder_copyCheck_used laysCopy copyX oi.b w (by rw [<- hy]; simp [World.cell?, p1, y1])).mono ?_
  rintro e w' ⟨rfl, rfl⟩
  exact ⟨g, _, hg, Step.refl, _, h, .tu [] #[] rfl (by simp)⟩
end Go.Proofs.YtoclmkbjgmgekaaGreatDoor
namespace Go.Proofs.YtoclmkbjgmgekaaGreatDoor
open Go.RowKit
attribute [local irreducible] dfun dround
def H95 : List (Nat × Hint) := []
def J95 : List (Nat × Hint) := []
abbrev S95 : List Sh := [.pt 0 0, .leaf]
abbrev L95 : List Lf := [.str, .sl .u8]
abbrev O95 : List ObSh := [.cells [.pt 0 0, .oa .u8 1], .arr .u8]
def F95 (g : prodL L95) (K : Kn) : Prop :=
 Room (g.2.1.length + (strB g.1).length) 1 (
 K (.tu [.int .i64 (g.1.size : Int), .cst .nilIface]) [some (.cells [.pt 0 0, .oa .u8 1 0]), some (.arr 0 .u8 (g.2.1 ++ (strB g.1)))])
theorem F95_eq (g : prodL L95) (K X : Kn) : F95 g K = dfun D (gamX [(106, rw106)] []) (isRaw [(106, rw106)]) H95 J95 19 [.tmp 4, .tmp 5] (codeOf Tryz.f95) (argsT S95 L95 g) (storeT S95 O95 L95 g) (settleD (storeT S95 O95 L95 g).length 0 K) X 0 := by kernel_rfl
theorem F95_ok (g : prodL L95) (K X : Kn) (h : F95 g K) : FCalls Tryz.prog 95 (argsT S95 L95 g) (storeT S95 O95 L95 g) K X 0 :=
 FCalls.settleD (dfun_sound (Γ := gamX [(106, rw106)] []) (mu := isRaw [(106, rw106)]) (H := H95) (J := J95) D_ok (gamX_ok (rs := [(106, rw106)]) (l := []) (by intro p hp; simp only [List.mem_cons, List.not_mem_nil, or_false] at hp; subst hp; exact rw106_ok) (fun p hp => by cases hp)) gamX_det rfl Tryz.func95 (c := codeOf Tryz.f95) rfl Tryz.ntmps95 (rs := [.tmp 4, .tmp 5]) Tryz.results95 (by unfold enters; rw [Tryz.func95]; kernel_rfl) (Nat.le_of_ble_eq_true (by kernel_rfl)) (X := X) (c0 := 0) (Eq.mp (F95_eq g K X) h))
def rw95 : Raw := ⟨S95, O95, L95, 0, fun g K _ => F95 g K⟩
theorem rw95_ok : rw95.Ok Tryz.prog 95 := fun g K X h => F95_ok g K X h
def H96 : List (Nat × Hint) := []
def J96 : List (Nat × Hint) := []
abbrev S96 : List Sh := [.pt 0 0, .leaf]
abbrev L96 : List Lf := [.int .u8, .sl .u8]
abbrev O96 : List ObSh := [.cells [.pt 0 0, .oa .u8 1], .arr .u8]
def F96 (g : prodL L96) (K : Kn) : Prop :=
 Room (g.2.1.length + [g.1].length) 1 (
 K (.cst .nilIface) [some (.cells [.pt 0 0, .oa .u8 1 0]), some (.arr 0 .u8 (g.2.1 ++ [g.1]))])
theorem F96_eq (g : prodL L96) (K X : Kn) : F96 g K = dfun D (gamX [(106, rw106)] []) (isRaw [(106, rw106)]) H96 J96 17 [.tmp 4] (codeOf Tryz.f96) (argsT S96 L96 g) (storeT S96 O96 L96 g) (settleD (storeT S96 O96 L96 g).length 0 K) X 0 := by kernel_rfl
theorem F96_ok (g : prodL L96) (K X : Kn) (h : F96 g K) : FCalls Tryz.prog 96 (argsT S96 L96 g) (storeT S96 O96 L96 g) K X 0 :=
 FCalls.settleD (dfun_sound (Γ := gamX [(106, rw106)] []) (mu := isRaw [(106, rw106)]) (H := H96) (J := J96) D_ok (gamX_ok (rs := [(106, rw106)]) (l := []) (by intro p hp; simp only [List.mem_cons, List.not_mem_nil, or_false] at hp; subst hp; exact rw106_ok) (fun p hp => by cases hp)) gamX_det rfl Tryz.func96 (c := codeOf Tryz.f96) rfl Tryz.ntmps96 (rs := [.tmp 4]) Tryz.results96 (by unfold enters; rw [Tryz.func96]; kernel_rfl) (Nat.le_of_ble_eq_true (by kernel_rfl)) (X := X) (c0 := 0) (Eq.mp (F96_eq g K X) h))
def rw96 : Raw := ⟨S96, O96, L96, 0, fun g K _ => F96 g K⟩
theorem rw96_ok : rw96.Ok Tryz.prog 96 := fun g K X h => F96_ok g K X h
end Go.Proofs.YtoclmkbjgmgekaaGreatDoor
namespace Go.Proofs.YtoclmkbjgmgekaaGreatDoor
open Go.RowKit
def encI (x : Sx) : List Int := (encL x).map fun b => (b.toNat : Int)
def encP (x : Sx) (bs : List Int) : Prop := bkS x <= lim /\ bs.length + 22 * bkS x <= 70368744177664
def encPre (g : prodL [.bool, .str, .sl .sexp, .sl .u8]) : Prop := encP ⟨g.1, g.2.1, g.2.2.1⟩ g.2.2.2.1
def encF (g : prodL [.bool, .str, .sl .sexp, .sl .u8]) (K _ : Kn) : Prop :=
 K (.tu []) [some (.cells [.pt 0 0, .oa .u8 1 0]), some (.arr 0 .u8 (g.2.2.2.1 ++ encI ⟨g.1, g.2.1, g.2.2.1⟩))]
end Go.Proofs.YtoclmkbjgmgekaaGreatDoor
namespace Go.Proofs.YtoclmkbjgmgekaaGreatDoor
open Go.RowKit
attribute [local irreducible] dfun dround
def H66 : List (Nat × Hint) := [(7, ⟨[], [(0, .pt 0 0), (24, .leaf), (25, .leaf), (26, .leaf)], [.cells [.pt 0 0, .oa .u8 1], .arr .u8], [.sl .sexp, .int .i64, .int .i64, .sl .u8]⟩)]
def J66 : List (Nat × Hint) := []
abbrev S66 : List Sh := [.pt 0 0, .ag [.leaf, .leaf, .leaf]]
abbrev L66 : List Lf := [.bool, .str, .sl .sexp, .sl .u8]
abbrev O66 : List ObSh := [.cells [.pt 0 0, .oa .u8 1], .arr .u8]
def rwz66 (Z : prodL L66 -> Prop) : Raw := ⟨S66, O66, L66, 0, fun g K X => Z g /\ encF g K X⟩
def F66_B6 (K : Kn) (Z : prodL L66 -> Prop) (W6 : prodL [.sl .sexp, .int .i64, .int .i64, .sl .u8] -> Prop) (t_5 : List Sx) (t2_5 t3_5 : Int) (o1_5 : List Int) : Prop :=
 bif decide (t3_5 < t2_5) then (
  At t_5 t3_5 fun u7 =>
 Z (u7.isList, u7.atom, u7.list, o1_5, ()) /\
 W6 (t_5, t2_5, IntKind.i64.wrap (t3_5 + 1), (o1_5 ++ encI ⟨u7.isList, u7.atom, u7.list⟩), ()))
 else (
  let g8 : prodL [.int .u8, .sl .u8] := (41, o1_5, ());
 Room (g8.2.1.length + [g8.1].length) 1 (
 K (.tu []) [some (.cells [.pt 0 0, .oa .u8 1 0]), some (.arr 0 .u8 (g8.2.1 ++ [g8.1]))]))
def F66_L6 (K : Kn) (Z : prodL L66 -> Prop) (g : prodL [.sl .sexp, .int .i64, .int .i64, .sl .u8]) : Prop :=
 LoopW (γ := prodL [.sl .sexp, .int .i64, .int .i64, .sl .u8]) (fun V y => F66_B6 K Z V y.1 y.2.1 y.2.2.1 y.2.2.2.1) g
def F66 (Z : prodL L66 -> Prop) (g : prodL L66) (K : Kn) : Prop :=
 bif !g.1 then (
  sp52.pre ((g.2.1.size : Int), ()) /\
  let g1 : prodL [.str, .sl .u8] := ((decB (g.2.1.size : Int)), g.2.2.2.1, ());
  Room (g1.2.1.length + (strB g1.1).length) 1 (
  let g2 : prodL [.int .u8, .sl .u8] := (58, g1.2.1 ++ (strB g1.1), ());
  Room (g2.2.1.length + [g2.1].length) 1 (
  let g3 : prodL [.str, .sl .u8] := (g.2.1, g2.2.1 ++ [g2.1], ());
  Room (g3.2.1.length + (strB g3.1).length) 1 (
  K (.tu []) [some (.cells [.pt 0 0, .oa .u8 1 0]), some (.arr 0 .u8 (g3.2.1 ++ (strB g3.1)))]))))
 else (
  let g4 : prodL [.int .u8, .sl .u8] := (40, g.2.2.2.1, ());
 Room (g4.2.1.length + [g4.1].length) 1 (
 F66_L6 K Z (g.2.2.1, (g.2.2.1.length : Int), 0, g4.2.1 ++ [g4.1], ())))
theorem F66_eq (Z : prodL L66 -> Prop) (g : prodL L66) (K X : Kn) : F66 Z g K = dfun D (gamX [(66, rwz66 Z), (95, rw95), (96, rw96)] [(52, true, sp52)]) (isRaw [(66, rwz66 Z), (95, rw95), (96, rw96)]) H66 J66 36 [] (codeOf Tryz.f66) (argsT S66 L66 g) (storeT S66 O66 L66 g) (settleD (storeT S66 O66 L66 g).length 0 K) X 0 := by kernel_rfl
theorem F66_ok (Z : prodL L66 -> Prop) (hZ : (rwz66 Z).Ok Tryz.prog 66) (g : prodL L66) (K X : Kn) (h : F66 Z g K) : FCalls Tryz.prog 66 (argsT S66 L66 g) (storeT S66 O66 L66 g) K X 0 :=
 FCalls.settleD (dfun_sound (Γ := gamX [(66, rwz66 Z), (95, rw95), (96, rw96)] [(52, true, sp52)]) (mu := isRaw [(66, rwz66 Z), (95, rw95), (96, rw96)]) (H := H66) (J := J66) D_ok (gamX_ok (rs := [(66, rwz66 Z), (95, rw95), (96, rw96)]) (l := [(52, true, sp52)]) (by intro p hp; simp only [List.mem_cons, List.not_mem_nil, or_false] at hp; rcases hp with rfl | rfl | rfl <;> first | exact hZ | exact rw95_ok | exact rw96_ok) (by intro p hp; simp only [List.mem_cons, List.not_mem_nil, or_false] at hp; subst hp; exact sp52_ok)) gamX_det rfl Tryz.func66 (c := codeOf Tryz.f66) rfl Tryz.ntmps66 (rs := []) Tryz.results66 (by unfold enters; rw [Tryz.func66]; kernel_rfl) (Nat.le_of_ble_eq_true (by kernel_rfl)) (X := X) (c0 := 0) (Eq.mp (F66_eq Z g K X) h))
end Go.Proofs.YtoclmkbjgmgekaaGreatDoor
namespace Go.Proofs.YtoclmkbjgmgekaaGreatDoor
open Go.RowKit
def encsI (l : List Sx) : List Int := (encLs l).map fun b => (b.toNat : Int)
theorem strB_bl (s : ByteArray) : strB s = (bl s).map fun b => (b.toNat : Int) := rfl
theorem strB_len (s : ByteArray) : (strB s).length = s.size := by rw [strB_bl, List.length_map, bl_len]
theorem encI_len {x : Sx} (h : bkS x <= lim) : (encI x).length <= 22 * bkS x := by unfold encI; rw [List.length_map]; exact encL_len x h
theorem encI_atom (a : ByteArray) (l : List Sx) : encI ⟨false, a, l⟩ = strB (decB (a.size : Int)) ++ (58 :: strB a) := by
 unfold encI
 simp only [encL, if_true, strB_bl, bl_dec, List.map_append, List.map_cons]
 rw [Lib.itoa, if_neg (by omega), Int.toNat_natCast]
 rfl
theorem encI_list (a : ByteArray) (l : List Sx) : encI ⟨true, a, l⟩ = 40 :: (encsI l ++ [41]) := by
 unfold encI encsI
 simp [encL]
theorem F66_is {Z : prodL L66 -> Prop} {b : Bool} {a : ByteArray} {l : List Sx} {bs : List Int} {K X : Kn} (hp : encP ⟨b, a, l⟩ bs) (hZ : ∀ x ∈ l, ∀ cs, encP x cs -> Z (x.isList, x.atom, x.list, cs, ())) (h : encF (b, a, l, bs, ()) K X) : F66 Z (b, a, l, bs, ()) K := by
 obtain ⟨hk, hz⟩ := hp
 obtain ⟨hs, hsz, hbl, _⟩ := small hk
 have hl := lim_eq
 unfold encF at h
 unfold F66
 simp only [bkS] at hz
 dsimp only [Lf.ty, prodL] at h ⊢
 cases b
 . rw [encI_atom] at h
   have hn : intP (a.size : Int) := (⟨by omega, by omega⟩ : -9223372036854775808 <= (a.size : Int) /\ (a.size : Int) <= 9223372036854775807)
   have hd := decB_size hn
   simp only [Bool.not_false, cond_true]
   refine ⟨hn, ?_, ?_, ?_, ?_⟩
   . rw [strB_len]; omega
   . simp only [List.length_append, strB_len, List.length_cons, List.length_nil]; omega
   . simp only [List.length_append, strB_len, List.length_cons, List.length_nil]; omega
   . rw [show ((bs ++ strB (decB (a.size : Int))) ++ [58]) ++ strB a = bs ++ (strB (decB (a.size : Int)) ++ (58 :: strB a)) by simp]
     exact h
 . rw [encI_list] at h
   simp only [Bool.not_true, cond_false]
   refine ⟨by simp only [List.length_cons, List.length_nil]; omega, ?_⟩
   unfold F66_L6
   refine LoopW.fold l (fun n (cs : List Int) => (l, (l.length : Int), (n : Int), cs, ())) (fun r _ cs => K (.tu []) [some (.cells [.pt 0 0, .oa .u8 1 0]), some (.arr 0 .u8 (cs ++ (encsI r ++ [41])))] /\ cs.length + 22 * bkSs r <= 70368744177664) (a0 := bs ++ [40]) rfl ⟨?_, by simp only [List.length_append, List.length_cons, List.length_nil]; omega⟩ (fun cs hp W => ?_) (fun n hn r cs hr hp W hW => ?_)
   . rw [List.append_assoc]; exact h
   . obtain ⟨p1, p2⟩ := hp
     unfold F66_B6
     rw [bif_dec, if_neg (by dsimp only; omega)]
     simp only [bkSs] at p2
     exact ⟨by simp only [List.length_cons, List.length_nil]; omega, p1⟩
   . obtain ⟨p1, p2⟩ := hp
     unfold F66_B6
     rw [bif_dec, if_pos (by dsimp only; omega)]
     have hx : bkS l[n] <= bkSs l := mem_bk (List.getElem_mem hn)
     have he := encI_len (x := l[n]) (by omega)
     simp only [bkSs] at p2
     refine At_of hn ⟨hZ _ (List.getElem_mem hn) cs ⟨by omega, by omega⟩, ?_⟩
     rw [Sx.eta, wrapS hn hs]
     refine hW (cs ++ encI l[n]) ⟨?_, ?_⟩
     . have e : encsI (l[n] :: r) = encI l[n] ++ encsI r := by unfold encsI encI; simp [encLs]
       rw [e] at p1
       rw [List.append_assoc, <- List.append_assoc (encI l[n])]
       exact p1
     . rw [List.length_append]; omega
def rw66 : Raw := rwz66 encPre
theorem rw66_all : ∀ n : Nat, (rwz66 fun g => encPre g /\ nodesS ⟨g.1, g.2.1, g.2.2.1⟩ < n).Ok Tryz.prog 66
 | 0 => fun g K X h => absurd h.1.2 (Nat.not_lt_zero _)
 | n + 1 => fun g K X h => F66_ok _ (rw66_all n) g K X (F66_is h.1.1 (fun x hx cs hc => ⟨(by show encP ⟨_, _, _⟩ _; rw [Sx.eta]; exact hc), by
   have h1 := ((small h.1.1.1).2.2.2 x hx).2
   have h2 := h.1.2
   dsimp only at *
   omega⟩) h.2)
theorem rw66_ok : rw66.Ok Tryz.prog 66 := fun g K X h => rw66_all (nodesS ⟨g.1, g.2.1, g.2.2.1⟩ + 1) g K X ⟨⟨h.1, Nat.lt_succ_self _⟩, h.2⟩
end Go.Proofs.YtoclmkbjgmgekaaGreatDoor
namespace Go.Proofs.YtoclmkbjgmgekaaGreatDoor
open Go.RowKit Go.Shelf
theorem setCell_at {w : World} {b q : Nat} {blk : Array Value} {E : TypeId} {fr : Nat × Nat} (v : Value) (h : w.heap[b]? = some (.cells blk E fr)) : (w.setCell ⟨b, q, none⟩ v).heap[b]? = some (.cells (blk.setIfInBounds q v) E fr) := by
 simp [World.setCell, Array.getElem?_modify, h]
theorem setCell_else {w : World} {b q b' : Nat} (v : Value) (h : b' ≠ b) : (w.setCell ⟨b, q, none⟩ v).heap[b']? = w.heap[b']? := by
 simp [World.setCell, Array.getElem?_modify, Ne.symm h]
def rw106f : Raw := ⟨[.pt 0 0], [.cells [.fp, .nil]], [], 0, fun _ K _ => K (.tu []) [some (.cells [.pt 0 0, .nil])]⟩
theorem rw106f_ok : rw106f.Ok Tryz.prog 106 := by
 rintro ⟨⟩ K X h g w hg
 have h : K (.tu []) [some (.cells [.pt 0 0, .nil])] := h
 have hg : Good g [some (.cells [.fp, .nil])] w := hg
 refine Atc.of (by kernel_rfl) fun args hr => ?_
 obtain ⟨x, rfl, hx⟩ := rl_one hr
 obtain ⟨oi, o1, _, o3⟩ := hg.obj 0 _ rfl
 have o1 : g.ob 0 0 = some oi := o1
 have hx : R g (.pt 0 0) x := hx
 cases hx with
 | pt _ _ oi' h1 =>
  rw [o1] at h1
  simp only [Option.some.injEq] at h1
  subst h1
  rcases o3 with o3 | ⟨_, blk, E, fr, p1, p2, p3, p4⟩
  . cases o3.1
  have p1 : w.heap[oi.b]? = some (.cells blk E fr) := p1
  obtain ⟨y, y1, _, y3⟩ := p3.at_ 0 _ rfl
  obtain ⟨z, z1, z2, z3⟩ := p3.at_ 1 _ rfl
  have hy : y = .pointer none := by cases y3; rfl
  subst hy
  have p4 : (E == 110 && blk.size == 2) = true := p4
  simp only [Bool.and_eq_true, beq_iff_eq] at p4
  obtain ⟨rfl, hs⟩ := p4
  refine (Any.Builder_copyCheck_fresh laysCopy copyX oi.b w (by simp [World.cell?, p1, y1]) (by simp [World.shape?, p1, hs]; rfl) (by
   have := p2 0 (by omega)
   simp only [World.frozen?, p1]
   simpa using this)).mono ?_
  rintro e w' ⟨rfl, rfl⟩
  obtain ⟨k1, k2, k3⟩ := good_put (st' := [some (.cells [.pt 0 0, .nil])]) (k := 0) (v := 0) (o' := .cells [.pt 0 0, .nil]) (oi := oi) (w' := w.setCell ⟨oi.b, 0, none⟩ (.pointer (some ⟨oi.b, 0, none⟩))) hg (fun i => by cases i <;> simp) (by decide) (by decide) rfl (.inr o1) (fun u oi' hu => old_ver (o' := .cells [.fp, .nil]) hg rfl hu) trivial
   (fun _ => .inr ⟨_, rfl, blk_of o1 (by simp [isArr])⟩) rfl rfl rfl (by simp [World.setCell]) (fun b _ hb => setCell_else _ fun e => hb _ rfl (by rw [blk_of o1 (by simp [isArr]), e]))
   (fun _ => ⟨_, 110, fr, setCell_at _ p1, fun q hq => p2 q (by simpa using hq), ⟨by simp [obCells, hs], fun j u hj => by
    match j, hj with
    | 0, hj => simp [obCells] at hj; subst hj; exact ⟨_, by simp [hs], rfl, .pt 0 0 oi o1⟩
    | 1, hj => simp [obCells] at hj; subst hj; exact ⟨z, by simpa using z1, z2, z3⟩
    | j + 2, hj => simp [obCells] at hj⟩, rfl⟩) (fun o ho => by
    simp only [List.getElem?_cons_zero, Option.some.injEq] at ho; subst ho; exact ⟨_, rfl, rfl, o1⟩)
  exact ⟨_, _, k1, k2 _, _, h, .tu [] #[] rfl (by simp)⟩
end Go.Proofs.YtoclmkbjgmgekaaGreatDoor
namespace Go.Proofs.YtoclmkbjgmgekaaGreatDoor
open Go.RowKit
attribute [local irreducible] dfun dround
def H95f : List (Nat × Hint) := []
def J95f : List (Nat × Hint) := []
abbrev S95f : List Sh := [.pt 0 0, .leaf]
abbrev L95f : List Lf := [.str]
abbrev O95f : List ObSh := [.cells [.fp, .nil]]
def F95f (g : prodL L95f) (K : Kn) : Prop :=
 Room ((strB g.1).length) 1 (
 K (.tu [.int .i64 (g.1.size : Int), .cst .nilIface]) [some (.cells [.pt 0 0, .oa .u8 1 0]), some (.arr 0 .u8 (strB g.1))])
theorem F95f_eq (g : prodL L95f) (K X : Kn) : F95f g K = dfun D (gamX [(106, rw106f)] []) (isRaw [(106, rw106f)]) H95f J95f 19 [.tmp 4, .tmp 5] (codeOf Tryz.f95) (argsT S95f L95f g) (storeT S95f O95f L95f g) (settleD (storeT S95f O95f L95f g).length 0 K) X 0 := by kernel_rfl
theorem F95f_ok (g : prodL L95f) (K X : Kn) (h : F95f g K) : FCalls Tryz.prog 95 (argsT S95f L95f g) (storeT S95f O95f L95f g) K X 0 :=
 FCalls.settleD (dfun_sound (Γ := gamX [(106, rw106f)] []) (mu := isRaw [(106, rw106f)]) (H := H95f) (J := J95f) D_ok (gamX_ok (rs := [(106, rw106f)]) (l := []) (by intro p hp; simp only [List.mem_cons, List.not_mem_nil, or_false] at hp; subst hp; exact rw106f_ok) (fun p hp => by cases hp)) gamX_det rfl Tryz.func95 (c := codeOf Tryz.f95) rfl Tryz.ntmps95 (rs := [.tmp 4, .tmp 5]) Tryz.results95 (by unfold enters; rw [Tryz.func95]; kernel_rfl) (Nat.le_of_ble_eq_true (by kernel_rfl)) (X := X) (c0 := 0) (Eq.mp (F95f_eq g K X) h))
def rw95f : Raw := ⟨S95f, O95f, L95f, 0, fun g K _ => F95f g K⟩
theorem rw95f_ok : rw95f.Ok Tryz.prog 95 := fun g K X h => F95f_ok g K X h
def H96f : List (Nat × Hint) := []
def J96f : List (Nat × Hint) := []
abbrev S96f : List Sh := [.pt 0 0, .leaf]
abbrev L96f : List Lf := [.int .u8]
abbrev O96f : List ObSh := [.cells [.fp, .nil]]
def F96f (g : prodL L96f) (K : Kn) : Prop :=
 Room ([g.1].length) 1 (
 K (.cst .nilIface) [some (.cells [.pt 0 0, .oa .u8 1 0]), some (.arr 0 .u8 [g.1])])
theorem F96f_eq (g : prodL L96f) (K X : Kn) : F96f g K = dfun D (gamX [(106, rw106f)] []) (isRaw [(106, rw106f)]) H96f J96f 17 [.tmp 4] (codeOf Tryz.f96) (argsT S96f L96f g) (storeT S96f O96f L96f g) (settleD (storeT S96f O96f L96f g).length 0 K) X 0 := by kernel_rfl
theorem F96f_ok (g : prodL L96f) (K X : Kn) (h : F96f g K) : FCalls Tryz.prog 96 (argsT S96f L96f g) (storeT S96f O96f L96f g) K X 0 :=
 FCalls.settleD (dfun_sound (Γ := gamX [(106, rw106f)] []) (mu := isRaw [(106, rw106f)]) (H := H96f) (J := J96f) D_ok (gamX_ok (rs := [(106, rw106f)]) (l := []) (by intro p hp; simp only [List.mem_cons, List.not_mem_nil, or_false] at hp; subst hp; exact rw106f_ok) (fun p hp => by cases hp)) gamX_det rfl Tryz.func96 (c := codeOf Tryz.f96) rfl Tryz.ntmps96 (rs := [.tmp 4]) Tryz.results96 (by unfold enters; rw [Tryz.func96]; kernel_rfl) (Nat.le_of_ble_eq_true (by kernel_rfl)) (X := X) (c0 := 0) (Eq.mp (F96f_eq g K X) h))
def rw96f : Raw := ⟨S96f, O96f, L96f, 0, fun g K _ => F96f g K⟩
theorem rw96f_ok : rw96f.Ok Tryz.prog 96 := fun g K X h => F96f_ok g K X h
end Go.Proofs.YtoclmkbjgmgekaaGreatDoor
namespace Go.Proofs.YtoclmkbjgmgekaaGreatDoor
open Go.RowKit
attribute [local irreducible] dfun dround
def H66f : List (Nat × Hint) := [(7, ⟨[((0, [1]), none)], [(0, .pt 0 0), (24, .leaf), (25, .leaf), (26, .leaf)], [.cells [.pt 0 0, .oa .u8 1], .arr .u8], [.sl .sexp, .int .i64, .int .i64, .sl .u8]⟩)]
def J66f : List (Nat × Hint) := []
abbrev S66f : List Sh := [.pt 0 0, .ag [.leaf, .leaf, .leaf]]
abbrev L66f : List Lf := [.bool, .str, .sl .sexp]
abbrev O66f : List ObSh := [.cells [.fp, .nil]]
def F66f_B6 (K : Kn) (W6 : prodL [.sl .sexp, .int .i64, .int .i64, .sl .u8] -> Prop) (t_5 : List Sx) (t2_5 t3_5 : Int) (w_5 : List Int) : Prop :=
 bif decide (t3_5 < t2_5) then (
  At t_5 t3_5 fun u7 =>
 encPre (u7.isList, u7.atom, u7.list, w_5, ()) /\
 W6 (t_5, t2_5, IntKind.i64.wrap (t3_5 + 1), (w_5 ++ encI ⟨u7.isList, u7.atom, u7.list⟩), ()))
 else (
  let g8 : prodL [.int .u8, .sl .u8] := (41, w_5, ());
 Room (g8.2.1.length + [g8.1].length) 1 (
 K (.tu []) [some (.cells [.pt 0 0, .oa .u8 1 0]), some (.arr 0 .u8 (g8.2.1 ++ [g8.1]))]))
def F66f_L6 (K : Kn) (g : prodL [.sl .sexp, .int .i64, .int .i64, .sl .u8]) : Prop :=
 LoopW (γ := prodL [.sl .sexp, .int .i64, .int .i64, .sl .u8]) (fun V y => F66f_B6 K V y.1 y.2.1 y.2.2.1 y.2.2.2.1) g
def F66f (g : prodL L66f) (K : Kn) : Prop :=
 bif !g.1 then (
  sp52.pre ((g.2.1.size : Int), ()) /\
  let g1 : prodL [.str] := ((decB (g.2.1.size : Int)), ());
  Room ((strB g1.1).length) 1 (
  let g2 : prodL [.int .u8, .sl .u8] := (58, strB g1.1, ());
  Room (g2.2.1.length + [g2.1].length) 1 (
  let g3 : prodL [.str, .sl .u8] := (g.2.1, g2.2.1 ++ [g2.1], ());
  Room (g3.2.1.length + (strB g3.1).length) 1 (
  K (.tu []) [some (.cells [.pt 0 0, .oa .u8 1 0]), some (.arr 0 .u8 (g3.2.1 ++ (strB g3.1)))]))))
 else (
  let g4 : prodL [.int .u8] := (40, ());
 Room ([g4.1].length) 1 (
 F66f_L6 K (g.2.2.1, (g.2.2.1.length : Int), 0, [g4.1], ())))
theorem F66f_eq (g : prodL L66f) (K X : Kn) : F66f g K = dfun D (gamX [(66, rw66), (95, rw95), (95, rw95f), (96, rw96), (96, rw96f)] [(52, true, sp52)]) (isRaw [(66, rw66), (95, rw95), (95, rw95f), (96, rw96), (96, rw96f)]) H66f J66f 36 [] (codeOf Tryz.f66) (argsT S66f L66f g) (storeT S66f O66f L66f g) (settleD (storeT S66f O66f L66f g).length 0 K) X 0 := by kernel_rfl
theorem F66f_ok (g : prodL L66f) (K X : Kn) (h : F66f g K) : FCalls Tryz.prog 66 (argsT S66f L66f g) (storeT S66f O66f L66f g) K X 0 :=
 FCalls.settleD (dfun_sound (Γ := gamX [(66, rw66), (95, rw95), (95, rw95f), (96, rw96), (96, rw96f)] [(52, true, sp52)]) (mu := isRaw [(66, rw66), (95, rw95), (95, rw95f), (96, rw96), (96, rw96f)]) (H := H66f) (J := J66f) D_ok (gamX_ok (rs := [(66, rw66), (95, rw95), (95, rw95f), (96, rw96), (96, rw96f)]) (l := [(52, true, sp52)]) (by intro p hp; simp only [List.mem_cons, List.not_mem_nil, or_false] at hp; rcases hp with rfl | rfl | rfl | rfl | rfl <;> first | exact rw66_ok | exact rw95_ok | exact rw95f_ok | exact rw96_ok | exact rw96f_ok) (by intro p hp; simp only [List.mem_cons, List.not_mem_nil, or_false] at hp; subst hp; exact sp52_ok)) gamX_det rfl Tryz.func66 (c := codeOf Tryz.f66) rfl Tryz.ntmps66 (rs := []) Tryz.results66 (by unfold enters; rw [Tryz.func66]; kernel_rfl) (Nat.le_of_ble_eq_true (by kernel_rfl)) (X := X) (c0 := 0) (Eq.mp (F66f_eq g K X) h))
end Go.Proofs.YtoclmkbjgmgekaaGreatDoor
namespace Go.Proofs.YtoclmkbjgmgekaaGreatDoor
open Go.RowKit
def encPf (g : prodL [.bool, .str, .sl .sexp]) : Prop := encP ⟨g.1, g.2.1, g.2.2.1⟩ []
theorem F66f_is {b : Bool} {a : ByteArray} {l : List Sx} {K : Kn} (hp : encP ⟨b, a, l⟩ []) (h : K (.tu []) [some (.cells [.pt 0 0, .oa .u8 1 0]), some (.arr 0 .u8 (encI ⟨b, a, l⟩))]) : F66f (b, a, l, ()) K := by
 obtain ⟨hk, hz⟩ := hp
 obtain ⟨hs, hsz, hbl, _⟩ := small hk
 have hl := lim_eq
 unfold F66f
 simp only [bkS, List.length_nil] at hz
 dsimp only [Lf.ty, prodL] at h ⊢
 cases b
 . rw [encI_atom] at h
   have hn : intP (a.size : Int) := (⟨by omega, by omega⟩ : -9223372036854775808 <= (a.size : Int) /\ (a.size : Int) <= 9223372036854775807)
   have hd := decB_size hn
   simp only [Bool.not_false, cond_true]
   refine ⟨hn, ?_, ?_, ?_, ?_⟩
   . rw [strB_len]; omega
   . simp only [strB_len, List.length_cons, List.length_nil]; omega
   . simp only [List.length_append, strB_len, List.length_cons, List.length_nil]; omega
   . rw [show ((strB (decB (a.size : Int))) ++ [58]) ++ strB a = (strB (decB (a.size : Int)) ++ (58 :: strB a)) by simp]
     exact h
 . rw [encI_list] at h
   simp only [Bool.not_true, cond_false]
   refine ⟨by simp only [List.length_cons, List.length_nil]; omega, ?_⟩
   unfold F66f_L6
   refine LoopW.fold l (fun n (cs : List Int) => (l, (l.length : Int), (n : Int), cs, ())) (fun r _ cs => K (.tu []) [some (.cells [.pt 0 0, .oa .u8 1 0]), some (.arr 0 .u8 (cs ++ (encsI r ++ [41])))] /\ cs.length + 22 * bkSs r <= 70368744177664) (a0 := [40]) rfl ⟨?_, by simp only [List.length_cons, List.length_nil]; omega⟩ (fun cs hp W => ?_) (fun n hn r cs hr hp W hW => ?_)
   . exact h
   . obtain ⟨p1, p2⟩ := hp
     unfold F66f_B6
     rw [bif_dec, if_neg (by dsimp only; omega)]
     simp only [bkSs] at p2
     exact ⟨by simp only [List.length_cons, List.length_nil]; omega, p1⟩
   . obtain ⟨p1, p2⟩ := hp
     unfold F66f_B6
     rw [bif_dec, if_pos (by dsimp only; omega)]
     have hx : bkS l[n] <= bkSs l := mem_bk (List.getElem_mem hn)
     have he := encI_len (x := l[n]) (by omega)
     simp only [bkSs] at p2
     refine At_of hn ⟨(by show encP ⟨l[n].isList, l[n].atom, l[n].list⟩ cs; rw [Sx.eta]; exact ⟨by omega, by omega⟩), ?_⟩
     rw [Sx.eta, wrapS hn hs]
     refine hW (cs ++ encI l[n]) ⟨?_, ?_⟩
     . have e : encsI (l[n] :: r) = encI l[n] ++ encsI r := by unfold encsI encI; simp [encLs]
       rw [e] at p1
       rw [List.append_assoc, <- List.append_assoc (encI l[n])]
       exact p1
     . rw [List.length_append]; omega
def rw66f : Raw := ⟨S66f, O66f, L66f, 0, fun g K _ => encPf g /\ K (.tu []) [some (.cells [.pt 0 0, .oa .u8 1 0]), some (.arr 0 .u8 (encI ⟨g.1, g.2.1, g.2.2.1⟩))]⟩
theorem rw66f_ok : rw66f.Ok Tryz.prog 66 := fun g K X h => F66f_ok g K X (F66f_is h.1 h.2)
end Go.Proofs.YtoclmkbjgmgekaaGreatDoor
namespace Go.Proofs.YtoclmkbjgmgekaaGreatDoor
open Go.RowKit
set_option maxHeartbeats 1000000 in
set_option maxRecDepth 100000 in
theorem string39 (b g cap : Nat) (cur : Array Value) (fr : Nat × Nat) (l : List UInt8) (w : World) (c0 : w.cell? ⟨b, 1, none⟩ = some (.slice (some ⟨g, 0, none⟩) l.length cap)) (hg : w.heap[g]? = some (.cells cur 5 fr)) (hl0 : l.length ≠ 0) (hnc : l.length <= cap) (hcm : cap <= maxLen) (hcs : cap <= cur.size)
  (hat : ∀ (j : Nat) (x : UInt8), l[j]? = some x -> cur[j]? = some (Value.int .u8 x.toNat)) :
  Calls Tryz.prog 67 #[.pointer (some ⟨b, 0, none⟩)] w fun e w' => e = .returned (.string ⟨l.toArray⟩) /\ w' = w.drew.freeze ⟨g, 0, none⟩ l.length := by
 have c1 : w.drew.cell? ⟨b, 1, none⟩ = some (.slice (some ⟨g, 0, none⟩) l.length cap) := c0
 have hg' : w.drew.heap[g]? = some (.cells cur 5 fr) := hg
 have hSD : (Builtin.unsafeSliceData_ #[101] 137 #[.slice (some ⟨g, 0, none⟩) l.length cap]).run Tryz.prog w.drew = .ok (.pointer (some ⟨g, 0, none⟩)) w.drew :=
  Lib.run_unsafeSliceData_row _ _ _ _ _ _ (by omega)
 have hUS : (Builtin.unsafeString_ #[137, 3] 9 #[.pointer (some ⟨g, 0, none⟩), .int .i64 l.length]).run Tryz.prog w.drew = .ok (.string ⟨l.toArray⟩) (w.drew.freeze ⟨g, 0, none⟩ l.length) := by
  refine Lib.run_unsafeString_row w.drew 137 3 9 5 Tryz.underlying137 (by kernel_rfl) g cur.size (by simp [World.shape?, hg']) l (fun e => hl0 (by rw [e]; rfl)) (by omega) (by unfold maxLen at hcm; omega) ?_
  intro j x hx
  have := hat j x hx
  unfold Addr.add
  by_cases hj : j = 0
  . subst hj; simp [World.cell?, hg', this]
  . simp [hj, World.cell?, hg', this]
 go_enter Tryz.func67, Tryz.ntmps67
 go_wp2
 go_region
 all_goals (go_wp2; go_ret; exact ⟨rfl, rfl⟩)
end Go.Proofs.YtoclmkbjgmgekaaGreatDoor
namespace Go.Proofs.YtoclmkbjgmgekaaGreatDoor
open Go.RowKit
theorem freeze_else {w : World} {a : Addr} {n b : Nat} (h : b ≠ a.block) : (w.freeze a n).heap[b]? = w.heap[b]? := by
 unfold World.freeze
 split
 . rfl
 . simp [Array.getElem?_modify, Ne.symm h]
theorem freeze_size {w : World} {a : Addr} {n : Nat} : (w.freeze a n).heap.size = w.heap.size := by
 unfold World.freeze
 split
 . rfl
 . simp
theorem freeze_os {w : World} {a : Addr} {n : Nat} : (w.freeze a n).os = w.os := by
 unfold World.freeze; split <;> rfl
theorem freeze_tape {w : World} {a : Addr} {n : Nat} : (w.freeze a n).tape = w.tape := by
 unfold World.freeze; split <;> rfl
theorem freeze_out {w : World} {a : Addr} {n : Nat} : (w.freeze a n).output = w.output := by
 unfold World.freeze; split <;> rfl
theorem u8_back {n : Int} (h1 : 0 <= n) (h2 : n < 256) : n = ((UInt8.ofNat n.toNat).toNat : Int) := by
 rw [UInt8.toNat_ofNat', Nat.mod_eq_of_lt (by omega)]
 omega
def strPre (g : prodL [.sl .u8]) : Prop := g.1 ≠ [] /\ ∀ n ∈ g.1, 0 <= n /\ n < 256
def rw67 : Raw := ⟨[.pt 0 0], bdrO, [.sl .u8], 0, fun g K _ => strPre g /\ K (.str (bStr g.1)) [some (.cells [.pt 0 0, .oa .u8 1 0]), some (.arr 1 .u8 [])]⟩
theorem rw67_ok : rw67.Ok Tryz.prog 67 := by
 rintro ⟨l, ⟨⟩⟩ K X h g w hg
 obtain ⟨⟨hne, hb⟩, h⟩ := h
 have hne : l ≠ [] := hne
 have hb : ∀ n ∈ l, 0 <= n /\ n < 256 := hb
 have h : K (.str (bStr l)) [some (.cells [.pt 0 0, .oa .u8 1 0]), some (.arr 1 .u8 [])] := h
 have hg : Good g [some (.cells [.pt 0 0, .oa .u8 1 0]), some (.arr 0 .u8 l)] w := hg
 refine Atc.of (by kernel_rfl) fun args hr => ?_
 obtain ⟨x, rfl, hx⟩ := rl_one hr
 obtain ⟨oi, o1, _, o3⟩ := hg.obj 0 _ rfl
 obtain ⟨oa, a1, a2, a3, a4, a5⟩ := hg.arr (k := 1) (ver := 0) (e := .u8) (l := l) rfl
 have o1 : g.ob 0 0 = some oi := o1
 have hx : R g (.pt 0 0) x := hx
 have hl0 : 0 < l.length := List.length_pos_iff.2 hne
 obtain ⟨_, cur, E, fr, q1, q2, q3, q4, q5⟩ := a5 (by omega)
 have q5 : (E == 5) = true := q5
 obtain rfl : E = 5 := by simpa using q5
 cases hx with
 | pt _ _ oi' h1 =>
  rw [o1] at h1
  simp only [Option.some.injEq] at h1
  subst h1
  rcases o3 with o3 | ⟨_, blk, E, fr', p1, _, p3, _⟩
  . cases o3.1
  have p1 : w.heap[oi.b]? = some (.cells blk E fr') := p1
  obtain ⟨z, z1, _, z3⟩ := p3.at_ 1 _ rfl
  have z3 : R g (.oa .u8 1 0) z := z3
  have hz : z = .slice (some ⟨oa.b, 0, none⟩) l.length oa.cap := by
   cases z3 with
   | oa _ _ _ oi'' A r1 r2 r3 r4 =>
    rw [a1] at r1
    simp only [Option.some.injEq] at r1
    subst r1
    rw [r2 (by omega), a2]
  subst hz
  have hlen : (l.map fun n => UInt8.ofNat n.toNat).length = l.length := List.length_map ..
  refine (string39 oi.b oa.b oa.cap cur fr (l.map fun n => UInt8.ofNat n.toNat) w (by rw [hlen]; simp [World.cell?, p1, z1]) q1 (by rw [hlen]; omega) (by rw [hlen]; omega) a4 (by rw [show sz .u8 = 1 from rfl, Nat.mul_one] at q4; exact q4) (fun j x hx => ?_)).mono ?_
  . simp only [List.getElem?_map, Option.map_eq_some_iff] at hx
    obtain ⟨n, hn, rfl⟩ := hx
    obtain ⟨y, y1, _, y3⟩ := q3.at_ j (.int .u8 n) (by
     have := encs_get (e := .u8) (j := 0) hn (by decide)
     simpa [sz, enc] using this)
    cases y3
    obtain ⟨b1, b2⟩ := hb n (List.mem_of_getElem? hn)
    rw [y1]
    exact congrArg (fun m => some (Value.int .u8 m)) (u8_back b1 b2)
  . rintro e w' ⟨rfl, rfl⟩
    have hnew : g.ob 1 1 = none := by
     cases hh : g.ob 1 1 with
     | none => rfl
     | some oi => have := old_ver (o' := .arr 0 .u8 l) hg rfl hh; simp [obVer] at this
    obtain ⟨k1, k2, k3⟩ := good_put (st' := [some (.cells [.pt 0 0, .oa .u8 1 0]), some (.arr 1 .u8 [])]) (k := 1) (v := 1) (o' := .arr 1 .u8 []) (oi := ⟨0, 0, 0⟩) (w' := w.drew.freeze ⟨oa.b, 0, none⟩ (l.map fun n => UInt8.ofNat n.toNat).length) hg (fun i => by rcases i with _ | _ | i <;> simp) (Nat.le_of_ble_eq_true rfl) (Nat.le_of_ble_eq_true rfl) rfl (.inl hnew)
     (fun u oi' hu => by have := old_ver (o' := .arr 0 .u8 l) hg rfl hu; simp [obVer] at this; omega) ⟨rfl, Nat.le_refl _, Nat.zero_le _⟩ (fun h => absurd ⟨rfl, rfl⟩ h) freeze_os freeze_tape freeze_out (by rw [freeze_size]; exact Nat.le_refl _)
     (fun b _ hb => freeze_else fun e => hb (.arr 0 .u8 l) rfl (by rw [blk_of a1 (by simp [isArr]; omega)]; exact congrArg some e.symm)) (fun h => absurd ⟨rfl, rfl⟩ h) (fun o ho => by
      simp only [List.getElem?_cons_succ, List.getElem?_cons_zero, Option.some.injEq] at ho; subst ho; exact ⟨_, _, rfl⟩)
    exact ⟨_, _, k1, k2 _, _, h, .str _⟩
end Go.Proofs.YtoclmkbjgmgekaaGreatDoor
namespace Go.Proofs.YtoclmkbjgmgekaaGreatDoor
open Go.RowKit
attribute [local irreducible] dfun dround
def H50 : List (Nat × Hint) := []
def J50 : List (Nat × Hint) := []
abbrev S50 : List Sh := [.ag [.leaf, .leaf, .leaf]]
abbrev L50 : List Lf := [.bool, .str, .sl .sexp]
def F50 (g : prodL L50) (K : Kn) : Prop :=
 sp65.pre (g.1, g.2.1, g.2.2.1, ()) /\
 bif !decide (ckG ⟨g.1, g.2.1, g.2.2.1⟩ = 0) then (
  K (.tu [.str (⟨#[]⟩ : ByteArray), .int .i64 (ckG ⟨g.1, g.2.1, g.2.2.1⟩)]) [])
 else (
  encPf (g.1, g.2.1, g.2.2.1, ()) /\
 strPre ((encI ⟨g.1, g.2.1, g.2.2.1⟩), ()) /\
 K (.tu [.str (bStr (encI ⟨g.1, g.2.1, g.2.2.1⟩)), .int .i64 0]) [])
theorem F50_eq (g : prodL L50) (K X : Kn) : F50 g K = dfun D (gamX [(66, rw66f), (67, rw67)] [(65, true, sp65)]) (isRaw [(66, rw66f), (67, rw67)]) H50 J50 14 [.tmp 2, .tmp 3] (codeOf Tryz.f50) (argsT S50 L50 g) [] (settle0 K) X := by kernel_rfl
theorem F50_ok (g : prodL L50) (K X : Kn) (h : F50 g K) : FCalls Tryz.prog 50 (argsT S50 L50 g) [] K X :=
 FCalls.settle0 (dfun_sound (Γ := gamX [(66, rw66f), (67, rw67)] [(65, true, sp65)]) (mu := isRaw [(66, rw66f), (67, rw67)]) (H := H50) (J := J50) D_ok (gamX_ok (rs := [(66, rw66f), (67, rw67)]) (l := [(65, true, sp65)]) (by intro p hp; simp only [List.mem_cons, List.not_mem_nil, or_false] at hp; rcases hp with rfl | rfl <;> first | exact rw66f_ok | exact rw67_ok) (by intro p hp; simp only [List.mem_cons, List.not_mem_nil, or_false] at hp; subst hp; exact sp65_ok)) gamX_det rfl Tryz.func50 (c := codeOf Tryz.f50) rfl Tryz.ntmps50 Tryz.results50 (by unfold enters; rw [Tryz.func50]; kernel_rfl) (Nat.le_of_ble_eq_true (by kernel_rfl)) (c0 := 0) (Eq.mp (F50_eq g K X) h))
end Go.Proofs.YtoclmkbjgmgekaaGreatDoor
namespace Go.Proofs.YtoclmkbjgmgekaaGreatDoor
open Go.RowKit
theorem bStr_encI (x : Sx) : bStr (encI x) = encB x := by
 have h : bl (bStr (encI x)) = bl (encB x) := by
  rw [encB_bl]
  unfold bStr encI bl
  simp [Function.comp_def]
 exact ByteArray.ext (Array.toList_inj.1 h)
theorem encI_ne (x : Sx) : encI x ≠ [] := by
 obtain ⟨b, a, l⟩ := x
 cases b
 . rw [encI_atom]; simp
 . rw [encI_list]; simp
theorem encI_byte (x : Sx) : ∀ n ∈ encI x, 0 <= n /\ n < 256 := by
 intro n hn
 unfold encI at hn
 obtain ⟨b, _, rfl⟩ := List.mem_map.1 hn
 have := b.toNat_lt
 omega
theorem encode_ok : EncodeOk :=
 ⟨by
  rintro ⟨b, a, l, ⟨⟩⟩ K X q1 h
  have h : K (.tu [.str (enT ⟨b, a, l⟩).1, .int .i64 (enT ⟨b, a, l⟩).2]) [] := h
  have q1 : bkS ⟨b, a, l⟩ <= lim := q1
  refine F50_ok (b, a, l, ()) K X ⟨q1, ?_⟩
  unfold enT at h
  dsimp only
  rw [bif_ndec]
  by_cases h0 : ckG ⟨b, a, l⟩ = 0
  . rw [if_pos h0] at h
    rw [if_pos h0]
    refine ⟨⟨q1, ?_⟩, ⟨encI_ne _, encI_byte _⟩, ?_⟩
    . have := lim_eq; simp only [List.length_nil]; omega
    . show K (.tu [.str (bStr (encI ⟨b, a, l⟩)), .int .i64 0]) []
      rw [bStr_encI]; exact h
  . rw [if_neg h0] at h
    rw [if_neg h0]
    exact h, fun _ _ _ => rfl, fun _ => rfl, fun _ _ => ⟨rfl, rfl⟩⟩
end Go.Proofs.YtoclmkbjgmgekaaGreatDoor
