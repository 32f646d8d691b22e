/- What functions come to: printed by exf.py. -/
import Derived.Test.YtofjpelbjehddaaFU
namespace Go.Proofs.Ytofjpelbjehddaa
set_option linter.unusedVariables false
set_option linter.unusedSimpArgs false
set_option linter.unusedSectionVars false
open Go.RowKit
attribute [local irreducible] dfun dround
/-- quilt/arq.due -/
def H33 : List (Nat × Hint) := []
def J33 : List (Nat × Hint) := []
abbrev S33 : List Sh := [.ag [.leaf, .leaf, .leaf, .leaf], .leaf]
abbrev L33 : List Lf := [.int .i64, .int .i64, .sl .str, .sl .i64, .int .i64]
abbrev O33 : List ObSh := []
def F33 (g : prodL L33) (K : Kn) : Prop :=
  K (.fn 44 [] [.pt 0 0, .pt 1 0]) [some (.cells [.int .i64 g.1, .int .i64 g.2.1, .sl false .str g.2.2.1, .sl false .i64 g.2.2.2.1]), some (.cells [.int .i64 g.2.2.2.2.1])]
theorem F33_eq (g : prodL L33) (K X : Kn) : F33 g K = dfun D (gamX [] []) (isRaw []) H33 J33 6 [.tmp 4] (codeOf Try.f33) (argsT S33 L33 g) (storeT S33 O33 L33 g) (settleD (storeT S33 O33 L33 g).length 0 K) X 0 := by kernel_rfl
theorem F33_ok (g : prodL L33) (K X : Kn) (h : F33 g K) : FCalls Try.prog 33 (argsT S33 L33 g) (storeT S33 O33 L33 g) K X 0 :=
  FCalls.settleD (dfun_sound (Γ := gamX [] []) (mu := isRaw []) (H := H33) (J := J33) D_ok (gamX_ok (rs := []) (l := []) (fun p hp => by cases hp) (fun p hp => by cases hp)) gamX_det rfl Try.func33 (c := codeOf Try.f33) rfl Try.ntmps33 (rs := [.tmp 4]) Try.results33 (by unfold enters; rw [Try.func33]; kernel_rfl) (Nat.le_of_ble_eq_true (by kernel_rfl)) (X := X) (c0 := 0) (Eq.mp (F33_eq g K X) h))
def rw33 : Raw := ⟨S33, O33, L33, 0, fun g K _ => F33 g K⟩
theorem rw33_ok : rw33.Ok Try.prog 33 := fun g K X h => F33_ok g K X h
/-- a round of quilt/arq.Poll -/
def H1015007 : List (Nat × Hint) := []
def J1015007 : List (Nat × Hint) := []
abbrev S1015007 : List Sh := [.leaf, .pt 0 0, .pt 1 0, .pt 2 0, .pt 3 0]
abbrev L1015007 : List Lf := [.int .i64, .int .i64, .int .i64, .sl .str, .sl .i64, .int .i64, .sl .i64, .sl .frm]
abbrev O1015007 : List ObSh := [.cells [.leaf, .leaf, .leaf, .leaf], .cells [.leaf], .cells [.oa .i64 4], .cells [.oa .frm 5], .arr .i64, .arr .frm]
def F1015007 (g : prodL L1015007) (K : Kn) : Prop :=
  0 ≤ g.1 ∧ g.1.toNat < g.2.2.2.2.2.2.1.length ∧
  atI g.2.2.2.2.2.2.1 g.1.toNat fun x1 =>
  At g.2.2.2.1 g.1 fun u2 =>
  Room (g.2.2.2.2.2.2.2.1.length + [(⟨false, (IntKind.i64.wrap (g.2.1 + g.1)), u2⟩ : Frm)].length) 32 (
  K (.bool true) [some (.cells [.int .i64 g.2.1, .int .i64 g.2.2.1, .sl false .str g.2.2.2.1, .sl false .i64 g.2.2.2.2.1]), some (.cells [.int .i64 g.2.2.2.2.2.1]), some (.cells [.oa .i64 4 0]), some (.cells [.oa .frm 5 0]), some (.arr 0 .i64 (g.2.2.2.2.2.2.1.set g.1.toNat g.2.2.2.2.2.1)), some (.arr 0 .frm (g.2.2.2.2.2.2.2.1 ++ [(⟨false, (IntKind.i64.wrap (g.2.1 + g.1)), u2⟩ : Frm)]))])
theorem F1015007_eq (g : prodL L1015007) (K : Kn) : F1015007 g K = dround D (gamX [] []) (isRaw []) H1015007 J1015007 (rdAt Try.prog 1015007) [2, 3, 6, 7] (argsT S1015007 L1015007 g) (storeT S1015007 O1015007 L1015007 g) (settleD (storeT S1015007 O1015007 L1015007 g).length 0 K) 0 := by kernel_rfl
theorem F1015007_ok (g : prodL L1015007) (K X : Kn) (h : F1015007 g K) : FCalls Try.prog 1015007 (argsT S1015007 L1015007 g) (storeT S1015007 O1015007 L1015007 g) K X 0 :=
  FCalls.settleD (dround_ok (Γ := gamX [] []) (mu := isRaw []) (H := H1015007) (J := J1015007) D_ok (gamX_ok (rs := []) (l := []) (fun p hp => by cases hp) (fun p hp => by cases hp)) gamX_det rfl (yi := ⟨15, 7, [2, 3, 6, 7]⟩) rfl (by kernel_rfl) (by kernel_rfl) (by kernel_rfl) (by rw [F1015007_eq g K] at h; exact h))
def rw1015007 : Raw := ⟨S1015007, O1015007, L1015007, 0, fun g K _ => F1015007 g K⟩
theorem rw1015007_ok : rw1015007.Ok Try.prog 1015007 := fun g K X h => F1015007_ok g K X h
end Go.Proofs.Ytofjpelbjehddaa
