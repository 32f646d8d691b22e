/- What functions come to: printed by exf.py. -/
import Derived.Test.YtofjpelbjehddaaTD
import Derived.Test.YtofjpelbjehddaaA6
namespace Go.Proofs.Ytofjpelbjehddaa
set_option linter.unusedVariables false
set_option linter.unusedSimpArgs false
set_option linter.unusedSectionVars false
open Go.RowKit
attribute [local irreducible] dfun dround
/-- quilt/quiltref49.fits -/
def H31 : List (Nat × Hint) := []
def J31 : List (Nat × Hint) := []
abbrev S31 : List Sh := [.leaf]
abbrev L31 : List Lf := [.str]
def F31 (g : prodL L31) (K : Kn) : Prop :=
  K (.bool (decide ((g.1.size : Int) ≤ 65472))) []
theorem F31_eq (g : prodL L31) (K X : Kn) : F31 g K = dfun D (gamX [] []) (isRaw []) H31 J31 6 [.tmp 2] (codeOf Try.f31) (argsT S31 L31 g) [] (settle0 K) X := by kernel_rfl
theorem F31_ok (g : prodL L31) (K X : Kn) (h : F31 g K) : FCalls Try.prog 31 (argsT S31 L31 g) [] K X :=
  FCalls.settle0 (dfun_sound (Γ := gamX [] []) (mu := isRaw []) (H := H31) (J := J31) D_ok (gamX_ok (rs := []) (l := []) (fun p hp => by cases hp) (fun p hp => by cases hp)) gamX_det rfl Try.func31 (c := codeOf Try.f31) rfl Try.ntmps31 (rs := [.tmp 2]) Try.results31 (by unfold enters; rw [Try.func31]; kernel_rfl) (Nat.le_of_ble_eq_true (by kernel_rfl)) (X := X) (c0 := 0) (Eq.mp (F31_eq g K X) h))
/-- quilt/arq.within -/
def H32 : List (Nat × Hint) := []
def J32 : List (Nat × Hint) := []
abbrev S32 : List Sh := [.leaf]
abbrev L32 : List Lf := [.int .i64]
def F32 (g : prodL L32) (K : Kn) : Prop :=
  bif decide (0 ≤ g.1) then (
    K (.bool (decide (g.1 ≤ 1099511627776))) [])
  else (
    K (.bool false) [])
theorem F32_eq (g : prodL L32) (K X : Kn) : F32 g K = dfun D (gamX [] []) (isRaw []) H32 J32 9 [.tmp 2] (codeOf Try.f32) (argsT S32 L32 g) [] (settle0 K) X := by kernel_rfl
theorem F32_ok (g : prodL L32) (K X : Kn) (h : F32 g K) : FCalls Try.prog 32 (argsT S32 L32 g) [] K X :=
  FCalls.settle0 (dfun_sound (Γ := gamX [] []) (mu := isRaw []) (H := H32) (J := J32) D_ok (gamX_ok (rs := []) (l := []) (fun p hp => by cases hp) (fun p hp => by cases hp)) gamX_det rfl Try.func32 (c := codeOf Try.f32) rfl Try.ntmps32 (rs := [.tmp 2]) Try.results32 (by unfold enters; rw [Try.func32]; kernel_rfl) (Nat.le_of_ble_eq_true (by kernel_rfl)) (X := X) (c0 := 0) (Eq.mp (F32_eq g K X) h))
/-- quilt/quiltref49.number -/
def H34 : List (Nat × Hint) := []
def J34 : List (Nat × Hint) := []
abbrev S34 : List Sh := [.leaf]
abbrev L34 : List Lf := [.int .i64]
def F34 (g : prodL L34) (K : Kn) : Prop :=
  bif decide (0 ≤ g.1) then (
    K (.bool (decide (g.1 ≤ 1099511627776))) [])
  else (
    K (.bool false) [])
theorem F34_eq (g : prodL L34) (K X : Kn) : F34 g K = dfun D (gamX [] []) (isRaw []) H34 J34 9 [.tmp 2] (codeOf Try.f34) (argsT S34 L34 g) [] (settle0 K) X := by kernel_rfl
theorem F34_ok (g : prodL L34) (K X : Kn) (h : F34 g K) : FCalls Try.prog 34 (argsT S34 L34 g) [] K X :=
  FCalls.settle0 (dfun_sound (Γ := gamX [] []) (mu := isRaw []) (H := H34) (J := J34) D_ok (gamX_ok (rs := []) (l := []) (fun p hp => by cases hp) (fun p hp => by cases hp)) gamX_det rfl Try.func34 (c := codeOf Try.f34) rfl Try.ntmps34 (rs := [.tmp 2]) Try.results34 (by unfold enters; rw [Try.func34]; kernel_rfl) (Nat.le_of_ble_eq_true (by kernel_rfl)) (X := X) (c0 := 0) (Eq.mp (F34_eq g K X) h))
/-- slices.Equal[[]string,string] -/
def H27 : List (Nat × Hint) := [(4, ⟨[], [(0, .leaf), (1, .leaf), (12, .leaf), (13, .leaf)], [], [.sl .str, .sl .str, .int .i64, .int .i64]⟩)]
def J27 : List (Nat × Hint) := []
abbrev S27 : List Sh := [.leaf, .leaf]
abbrev L27 : List Lf := [.sl .str, .sl .str]
def F27_B2 (K : Kn) (W2 : prodL [.sl .str, .sl .str, .int .i64, .int .i64] → Prop) (s1_1 : List ByteArray) (s2_1 : List ByteArray) (t_1 : Int) (t2_1 : Int) : Prop :=
  bif decide (t2_1 < t_1) then (
    At s1_1 t2_1 fun u3 =>
  At s2_1 t2_1 fun u4 =>
  bif !decide (u3 = u4) then (
    K (.bool false) [])
  else (
    W2 (s1_1, s2_1, t_1, IntKind.i64.wrap (t2_1 + 1), ())))
  else (
    K (.bool true) [])
def F27_L2 (K : Kn) (g : prodL [.sl .str, .sl .str, .int .i64, .int .i64]) : Prop :=
  LoopW (γ := prodL [.sl .str, .sl .str, .int .i64, .int .i64]) (fun V y => F27_B2 K V y.1 y.2.1 y.2.2.1 y.2.2.2.1) g
def F27 (g : prodL L27) (K : Kn) : Prop :=
  bif !decide ((g.1.length : Int) = (g.2.1.length : Int)) then (
    K (.bool false) [])
  else (
    F27_L2 K (g.1, g.2.1, (g.1.length : Int), 0, ()))
theorem F27_eq (g : prodL L27) (K X : Kn) : F27 g K = dfun D (gamX [] []) (isRaw []) H27 J27 26 [.tmp 4] (codeOf Try.f27) (argsT S27 L27 g) [] (settle0 K) X := by kernel_rfl
theorem F27_ok (g : prodL L27) (K X : Kn) (h : F27 g K) : FCalls Try.prog 27 (argsT S27 L27 g) [] K X :=
  FCalls.settle0 (dfun_sound (Γ := gamX [] []) (mu := isRaw []) (H := H27) (J := J27) D_ok (gamX_ok (rs := []) (l := []) (fun p hp => by cases hp) (fun p hp => by cases hp)) gamX_det rfl Try.func27 (c := codeOf Try.f27) rfl Try.ntmps27 (rs := [.tmp 4]) Try.results27 (by unfold enters; rw [Try.func27]; kernel_rfl) (Nat.le_of_ble_eq_true (by kernel_rfl)) (X := X) (c0 := 0) (Eq.mp (F27_eq g K X) h))
/-- slices.Equal[[]int,int] -/
def H28 : List (Nat × Hint) := [(4, ⟨[], [(0, .leaf), (1, .leaf), (12, .leaf), (13, .leaf)], [], [.sl .i64, .sl .i64, .int .i64, .int .i64]⟩)]
def J28 : List (Nat × Hint) := []
abbrev S28 : List Sh := [.leaf, .leaf]
abbrev L28 : List Lf := [.sl .i64, .sl .i64]
def F28_B2 (K : Kn) (W2 : prodL [.sl .i64, .sl .i64, .int .i64, .int .i64] → Prop) (s1_1 : List Int) (s2_1 : List Int) (t_1 : Int) (t2_1 : Int) : Prop :=
  bif decide (t2_1 < t_1) then (
    At s1_1 t2_1 fun u3 =>
  At s2_1 t2_1 fun u4 =>
  bif !decide (u3 = u4) then (
    K (.bool false) [])
  else (
    W2 (s1_1, s2_1, t_1, IntKind.i64.wrap (t2_1 + 1), ())))
  else (
    K (.bool true) [])
def F28_L2 (K : Kn) (g : prodL [.sl .i64, .sl .i64, .int .i64, .int .i64]) : Prop :=
  LoopW (γ := prodL [.sl .i64, .sl .i64, .int .i64, .int .i64]) (fun V y => F28_B2 K V y.1 y.2.1 y.2.2.1 y.2.2.2.1) g
def F28 (g : prodL L28) (K : Kn) : Prop :=
  bif !decide ((g.1.length : Int) = (g.2.1.length : Int)) then (
    K (.bool false) [])
  else (
    F28_L2 K (g.1, g.2.1, (g.1.length : Int), 0, ()))
theorem F28_eq (g : prodL L28) (K X : Kn) : F28 g K = dfun D (gamX [] []) (isRaw []) H28 J28 26 [.tmp 4] (codeOf Try.f28) (argsT S28 L28 g) [] (settle0 K) X := by kernel_rfl
theorem F28_ok (g : prodL L28) (K X : Kn) (h : F28 g K) : FCalls Try.prog 28 (argsT S28 L28 g) [] K X :=
  FCalls.settle0 (dfun_sound (Γ := gamX [] []) (mu := isRaw []) (H := H28) (J := J28) D_ok (gamX_ok (rs := []) (l := []) (fun p hp => by cases hp) (fun p hp => by cases hp)) gamX_det rfl Try.func28 (c := codeOf Try.f28) rfl Try.ntmps28 (rs := [.tmp 4]) Try.results28 (by unfold enters; rw [Try.func28]; kernel_rfl) (Nat.le_of_ble_eq_true (by kernel_rfl)) (X := X) (c0 := 0) (Eq.mp (F28_eq g K X) h))
/-- slices.Index[[]int,int] -/
def H45 : List (Nat × Hint) := [(2, ⟨[], [(0, .leaf), (1, .leaf), (7, .leaf), (8, .leaf)], [], [.sl .i64, .int .i64, .int .i64, .int .i64]⟩)]
def J45 : List (Nat × Hint) := []
abbrev S45 : List Sh := [.leaf, .leaf]
abbrev L45 : List Lf := [.sl .i64, .int .i64]
def F45_B2 (K : Kn) (W2 : prodL [.sl .i64, .int .i64, .int .i64, .int .i64] → Prop) (s_1 : List Int) (v_1 : Int) (t_1 : Int) (t2_1 : Int) : Prop :=
  bif decide (t2_1 < t_1) then (
    At s_1 t2_1 fun u3 =>
  bif decide (v_1 = u3) then (
    K (.int .i64 t2_1) [])
  else (
    W2 (s_1, v_1, t_1, IntKind.i64.wrap (t2_1 + 1), ())))
  else (
    K (.int .i64 (-1)) [])
def F45_L2 (K : Kn) (g : prodL [.sl .i64, .int .i64, .int .i64, .int .i64]) : Prop :=
  LoopW (γ := prodL [.sl .i64, .int .i64, .int .i64, .int .i64]) (fun V y => F45_B2 K V y.1 y.2.1 y.2.2.1 y.2.2.2.1) g
def F45 (g : prodL L45) (K : Kn) : Prop :=
  F45_L2 K (g.1, g.2.1, (g.1.length : Int), 0, ())
theorem F45_eq (g : prodL L45) (K X : Kn) : F45 g K = dfun D (gamX [] []) (isRaw []) H45 J45 19 [.tmp 4] (codeOf Try.f45) (argsT S45 L45 g) [] (settle0 K) X := by kernel_rfl
theorem F45_ok (g : prodL L45) (K X : Kn) (h : F45 g K) : FCalls Try.prog 45 (argsT S45 L45 g) [] K X :=
  FCalls.settle0 (dfun_sound (Γ := gamX [] []) (mu := isRaw []) (H := H45) (J := J45) D_ok (gamX_ok (rs := []) (l := []) (fun p hp => by cases hp) (fun p hp => by cases hp)) gamX_det rfl Try.func45 (c := codeOf Try.f45) rfl Try.ntmps45 (rs := [.tmp 4]) Try.results45 (by unfold enters; rw [Try.func45]; kernel_rfl) (Nat.le_of_ble_eq_true (by kernel_rfl)) (X := X) (c0 := 0) (Eq.mp (F45_eq g K X) h))
/-- slices.Index[[]bool,bool] -/
def H41 : List (Nat × Hint) := [(2, ⟨[], [(0, .leaf), (1, .leaf), (7, .leaf), (8, .leaf)], [], [.sl .boo, .bool, .int .i64, .int .i64]⟩)]
def J41 : List (Nat × Hint) := []
abbrev S41 : List Sh := [.leaf, .leaf]
abbrev L41 : List Lf := [.sl .boo, .bool]
def F41_B2 (K : Kn) (W2 : prodL [.sl .boo, .bool, .int .i64, .int .i64] → Prop) (s_1 : List Bool) (v_1 : Bool) (t_1 : Int) (t2_1 : Int) : Prop :=
  bif decide (t2_1 < t_1) then (
    At s_1 t2_1 fun u3 =>
  bif decide (v_1 = u3) then (
    K (.int .i64 t2_1) [])
  else (
    W2 (s_1, v_1, t_1, IntKind.i64.wrap (t2_1 + 1), ())))
  else (
    K (.int .i64 (-1)) [])
def F41_L2 (K : Kn) (g : prodL [.sl .boo, .bool, .int .i64, .int .i64]) : Prop :=
  LoopW (γ := prodL [.sl .boo, .bool, .int .i64, .int .i64]) (fun V y => F41_B2 K V y.1 y.2.1 y.2.2.1 y.2.2.2.1) g
def F41 (g : prodL L41) (K : Kn) : Prop :=
  F41_L2 K (g.1, g.2.1, (g.1.length : Int), 0, ())
theorem F41_eq (g : prodL L41) (K X : Kn) : F41 g K = dfun D (gamX [] []) (isRaw []) H41 J41 19 [.tmp 4] (codeOf Try.f41) (argsT S41 L41 g) [] (settle0 K) X := by kernel_rfl
theorem F41_ok (g : prodL L41) (K X : Kn) (h : F41 g K) : FCalls Try.prog 41 (argsT S41 L41 g) [] K X :=
  FCalls.settle0 (dfun_sound (Γ := gamX [] []) (mu := isRaw []) (H := H41) (J := J41) D_ok (gamX_ok (rs := []) (l := []) (fun p hp => by cases hp) (fun p hp => by cases hp)) gamX_det rfl Try.func41 (c := codeOf Try.f41) rfl Try.ntmps41 (rs := [.tmp 4]) Try.results41 (by unfold enters; rw [Try.func41]; kernel_rfl) (Nat.le_of_ble_eq_true (by kernel_rfl)) (X := X) (c0 := 0) (Eq.mp (F41_eq g K X) h))
end Go.Proofs.Ytofjpelbjehddaa
