/- What functions come to: printed by exf.py. -/
import Derived.Test.YtofjpelbjehddaaFV
namespace Go.Proofs.Ytofjpelbjehddaa
set_option linter.unusedVariables false
set_option linter.unusedSimpArgs false
set_option linter.unusedSectionVars false
open Go.RowKit
attribute [local irreducible] dfun dround
/-- slices.Grow[[]bool,bool] -/
def H46 : List (Nat × Hint) := []
def J46 : List (Nat × Hint) := []
abbrev S46 : List Sh := [.fsl .boo, .leaf]
abbrev L46 : List Lf := [.sl .boo, .int .i64]
def F46 (g : prodL L46) (K : Kn) : Prop :=
  bif decide (g.2.1 < 0) then (
    False)
  else (
    bif decide (0 < IntKind.i64.wrap (g.2.1 - (IntKind.i64.wrap ((g.1.length : Int) - (g.1.length : Int))))) then (
    (0 : Int) ≤ 0 ∧ 0 ≤ (g.1.length : Int) ∧ (g.1.length : Int) ≤ (g.1.length : Int) ∧
    bif decide ((g.1.length : Int) = (g.1.length : Int)) then (
      Need (0 < IntKind.i64.wrap (g.2.1 - (IntKind.i64.wrap ((g.1.length : Int) - (g.1.length : Int))))) (Room (((g.1.take ((g.1.length : Int).toNat)).drop ((0 : Int).toNat)).length + (IntKind.i64.wrap (g.2.1 - (IntKind.i64.wrap ((g.1.length : Int) - (g.1.length : Int))))).toNat) 1 (
      (0 : Int) ≤ 0 ∧ 0 ≤ (g.1.length : Int) ∧ (g.1.length : Int) ≤ ((((g.1.take ((g.1.length : Int).toNat)).drop ((0 : Int).toNat)) ++ List.replicate (IntKind.i64.wrap (g.2.1 - (IntKind.i64.wrap ((g.1.length : Int) - (g.1.length : Int))))).toNat (false : Bool)).length : Int) ∧
      K (.os .boo 0 0 ((0 : Int).toNat) ((g.1.length : Int).toNat - (0 : Int).toNat)) [some (.arr 0 .boo (((g.1.take ((g.1.length : Int).toNat)).drop ((0 : Int).toNat)) ++ List.replicate (IntKind.i64.wrap (g.2.1 - (IntKind.i64.wrap ((g.1.length : Int) - (g.1.length : Int))))).toNat (false : Bool)))])))
    else (
      False))
  else (
    K (.sl true .boo g.1) []))
theorem F46_eq (g : prodL L46) (K X : Kn) : F46 g K = dfun D (gamX [] []) (isRaw []) H46 J46 27 [.tmp 4] (codeOf Try.f46) (argsT S46 L46 g) [] (settleR (virtR .boo K)) (fun _ _ => False) := by kernel_rfl
theorem F46_ok (g : prodL L46) (K X : Kn) (h : F46 g K) : FCalls Try.prog 46 (argsT S46 L46 g) [] K X :=
  FCalls.noX (FCalls.virtR (FCalls.settleR (dfun_sound (Γ := gamX [] []) (mu := isRaw []) (H := H46) (J := J46) D_ok (gamX_ok (rs := []) (l := []) (fun p hp => by cases hp) (fun p hp => by cases hp)) gamX_det rfl Try.func46 (c := codeOf Try.f46) rfl Try.ntmps46 (rs := [.tmp 4]) Try.results46 (by unfold enters; rw [Try.func46]; kernel_rfl) (Nat.le_of_ble_eq_true (by kernel_rfl)) (X := (fun _ _ => False)) (c0 := 0) (Eq.mp (F46_eq g K X) h))))
/-- slices.Grow[[]string,string] -/
def H47 : List (Nat × Hint) := []
def J47 : List (Nat × Hint) := []
abbrev S47 : List Sh := [.fsl .str, .leaf]
abbrev L47 : List Lf := [.sl .str, .int .i64]
def F47 (g : prodL L47) (K : Kn) : Prop :=
  bif decide (g.2.1 < 0) then (
    False)
  else (
    bif decide (0 < IntKind.i64.wrap (g.2.1 - (IntKind.i64.wrap ((g.1.length : Int) - (g.1.length : Int))))) then (
    (0 : Int) ≤ 0 ∧ 0 ≤ (g.1.length : Int) ∧ (g.1.length : Int) ≤ (g.1.length : Int) ∧
    bif decide ((g.1.length : Int) = (g.1.length : Int)) then (
      Need (0 < IntKind.i64.wrap (g.2.1 - (IntKind.i64.wrap ((g.1.length : Int) - (g.1.length : Int))))) (Room (((g.1.take ((g.1.length : Int).toNat)).drop ((0 : Int).toNat)).length + (IntKind.i64.wrap (g.2.1 - (IntKind.i64.wrap ((g.1.length : Int) - (g.1.length : Int))))).toNat) 16 (
      (0 : Int) ≤ 0 ∧ 0 ≤ (g.1.length : Int) ∧ (g.1.length : Int) ≤ ((((g.1.take ((g.1.length : Int).toNat)).drop ((0 : Int).toNat)) ++ List.replicate (IntKind.i64.wrap (g.2.1 - (IntKind.i64.wrap ((g.1.length : Int) - (g.1.length : Int))))).toNat ((⟨#[]⟩ : ByteArray) : ByteArray)).length : Int) ∧
      K (.os .str 0 0 ((0 : Int).toNat) ((g.1.length : Int).toNat - (0 : Int).toNat)) [some (.arr 0 .str (((g.1.take ((g.1.length : Int).toNat)).drop ((0 : Int).toNat)) ++ List.replicate (IntKind.i64.wrap (g.2.1 - (IntKind.i64.wrap ((g.1.length : Int) - (g.1.length : Int))))).toNat ((⟨#[]⟩ : ByteArray) : ByteArray)))])))
    else (
      False))
  else (
    K (.sl true .str g.1) []))
theorem F47_eq (g : prodL L47) (K X : Kn) : F47 g K = dfun D (gamX [] []) (isRaw []) H47 J47 27 [.tmp 4] (codeOf Try.f47) (argsT S47 L47 g) [] (settleR (virtR .str K)) (fun _ _ => False) := by kernel_rfl
theorem F47_ok (g : prodL L47) (K X : Kn) (h : F47 g K) : FCalls Try.prog 47 (argsT S47 L47 g) [] K X :=
  FCalls.noX (FCalls.virtR (FCalls.settleR (dfun_sound (Γ := gamX [] []) (mu := isRaw []) (H := H47) (J := J47) D_ok (gamX_ok (rs := []) (l := []) (fun p hp => by cases hp) (fun p hp => by cases hp)) gamX_det rfl Try.func47 (c := codeOf Try.f47) rfl Try.ntmps47 (rs := [.tmp 4]) Try.results47 (by unfold enters; rw [Try.func47]; kernel_rfl) (Nat.le_of_ble_eq_true (by kernel_rfl)) (X := (fun _ _ => False)) (c0 := 0) (Eq.mp (F47_eq g K X) h))))
end Go.Proofs.Ytofjpelbjehddaa
