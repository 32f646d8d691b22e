/- What functions come to: printed by exf.py. -/
import Derived.Test.YtpbkhdeehlikfaaDoorCF
namespace Go.Proofs.YtpbkhdeehlikfaaDoor
set_option linter.unusedVariables false
set_option linter.unusedSimpArgs false
set_option linter.unusedSectionVars false
open Go.RowKit
attribute [local irreducible] dfun dround
/-- (*quilt/csexp.reader).length -/
def H43 : List (Nat × Hint) := [(4, ⟨[], [(0, .pt 0 0), (3, .leaf), (4, .leaf)], [.cells [.leaf, .leaf, .leaf]], [.int .i64, .bool, .str, .int .i64, .int .i64]⟩)]
def J43 : List (Nat × Hint) := [(6, ⟨[], [(0, .pt 0 0), (3, .leaf), (4, .leaf), (5, .leaf), (13, .leaf)], [.cells [.leaf, .leaf, .leaf]], [.int .i64, .bool, .int .u8, .bool, .str, .int .i64, .int .i64]⟩), (9, ⟨[], [(0, .pt 0 0), (3, .leaf), (5, .leaf), (35, .leaf)], [.cells [.leaf, .leaf, .leaf]], [.int .i64, .int .u8, .bool, .str, .int .i64, .int .i64]⟩)]
abbrev S43 : List Sh := [.pt 0 0]
abbrev L43 : List Lf := [.str, .int .i64, .int .i64]
abbrev O43 : List ObSh := [.cells [.leaf, .leaf, .leaf]]
def F43_J8 (K X : Kn) (W2 : prodL [.int .i64, .bool, .str, .int .i64, .int .i64] → Prop) (n_7 : Int) (c_7 : Int) (t_7 : Bool) (o01_7 : ByteArray) (o02_7 : Int) (o03_7 : Int) : Prop :=
  bif t_7 then (
    X (.ic 47 (.ag [.int .i64 12])) [some (.cells [.str o01_7, .int .i64 o02_7, .int .i64 o03_7])])
  else (
    bif decide (65536 < IntKind.i64.wrap ((IntKind.i64.wrap (10 * n_7)) + (IntKind.i64.wrap (IntKind.u8.wrap (c_7 - 48))))) then (
    X (.ic 47 (.ag [.int .i64 12])) [some (.cells [.str o01_7, .int .i64 o02_7, .int .i64 o03_7])])
  else (
    W2 (IntKind.i64.wrap ((IntKind.i64.wrap (10 * n_7)) + (IntKind.i64.wrap (IntKind.u8.wrap (c_7 - 48)))), false, o01_7, IntKind.i64.wrap (o02_7 + 1), o03_7, ())))
def F43_J6 (K X : Kn) (W2 : prodL [.int .i64, .bool, .str, .int .i64, .int .i64] → Prop) (n_5 : Int) (first_5 : Bool) (c_5 : Int) (t_5 : Bool) (o01_5 : ByteArray) (o02_5 : Int) (o03_5 : Int) : Prop :=
  bif t_5 then (
    K (.int .i64 n_5) [some (.cells [.str o01_5, .int .i64 (IntKind.i64.wrap (o02_5 + 1)), .int .i64 o03_5])])
  else (
    bif decide (c_5 < 48) then (
    F43_J8 K X W2 n_5 c_5 true o01_5 o02_5 o03_5)
  else (
    bif decide (57 < c_5) then (
      F43_J8 K X W2 n_5 c_5 true o01_5 o02_5 o03_5)
    else (
      bif !first_5 then (
        F43_J8 K X W2 n_5 c_5 (decide (n_5 = 0)) o01_5 o02_5 o03_5)
      else (
        F43_J8 K X W2 n_5 c_5 false o01_5 o02_5 o03_5))))
def F43_B2 (K X : Kn) (W2 : prodL [.int .i64, .bool, .str, .int .i64, .int .i64] → Prop) (n_1 : Int) (first_1 : Bool) (o01_1 : ByteArray) (o02_1 : Int) (o03_1 : Int) : Prop :=
  nextPre (o01_1, o02_1, o03_1, ()) ∧
  Res.go (headR ((bl o01_1).drop o02_1.toNat)) (fun a3 =>
  bif decide ((a3.toNat : Int) = 58) then (
    F43_J6 K X W2 n_1 first_1 (a3.toNat : Int) (!first_1) o01_1 o02_1 o03_1)
  else (
    F43_J6 K X W2 n_1 first_1 (a3.toNat : Int) false o01_1 o02_1 o03_1)) (fun e4 =>
  X (.ic 47 (.ag [.int .i64 e4])) [some (.cells [.str o01_1, .int .i64 o02_1, .int .i64 o03_1])])
def F43_L2 (K X : Kn) (g : prodL [.int .i64, .bool, .str, .int .i64, .int .i64]) : Prop :=
  LoopW (γ := prodL [.int .i64, .bool, .str, .int .i64, .int .i64]) (fun V y => F43_B2 K X V y.1 y.2.1 y.2.2.1 y.2.2.2.1 y.2.2.2.2.1) g
def F43 (g : prodL L43) (K X : Kn) : Prop :=
  F43_L2 K X (0, true, g.1, g.2.1, g.2.2.1, ())
theorem F43_eq (g : prodL L43) (K X : Kn) : F43 g K X = dfun D (gamX [(42, rw42)] []) (isRaw [(42, rw42)]) H43 J43 55 [.tmp 2] (codeOf Tryd.f43) (argsT S43 L43 g) (storeT S43 O43 L43 g) (settleD (storeT S43 O43 L43 g).length 0 K) (settleD (storeT S43 O43 L43 g).length 0 X) 0 := by kernel_rfl
theorem F43_ok (g : prodL L43) (K X : Kn) (h : F43 g K X) : FCalls Tryd.prog 43 (argsT S43 L43 g) (storeT S43 O43 L43 g) K X 0 :=
  FCalls.settleX (FCalls.settleD (dfun_sound (Γ := gamX [(42, rw42)] []) (mu := isRaw [(42, rw42)]) (H := H43) (J := J43) D_ok (gamX_ok (rs := [(42, rw42)]) (l := []) (by intro p hp; simp only [List.mem_cons, List.not_mem_nil, or_false] at hp; subst hp; exact rw42_ok) (fun p hp => by cases hp)) gamX_det rfl Tryd.func43 (c := codeOf Tryd.f43) rfl Tryd.ntmps43 (rs := [.tmp 2]) Tryd.results43 (by unfold enters; rw [Tryd.func43]; kernel_rfl) (Nat.le_of_ble_eq_true (by kernel_rfl)) (X := (settleD (storeT S43 O43 L43 g).length 0 X)) (c0 := 0) (Eq.mp (F43_eq g K X) h)))
end Go.Proofs.YtpbkhdeehlikfaaDoor
