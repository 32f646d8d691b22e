/- What functions come to: printed by exf.py. -/
import Derived.Test.YtofjpelbjehddaaFW
namespace Go.Proofs.Ytofjpelbjehddaa
set_option linter.unusedVariables false
set_option linter.unusedSimpArgs false
set_option linter.unusedSectionVars false
open Go.RowKit
attribute [local irreducible] dfun dround
/-- quilt/arq.put -/
def H40 : List (Nat × Hint) := []
def J40 : List (Nat × Hint) := []
abbrev S40 : List Sh := [.ag [.leaf, .leaf, .leaf], .leaf, .leaf]
abbrev L40 : List Lf := [.int .i64, .sl .boo, .sl .str, .int .i64, .str]
def F40 (g : prodL L40) (K : Kn) : Prop :=
  (0 : Int) ≤ 0 ∧ 0 ≤ (g.2.1.length : Int) ∧ (g.2.1.length : Int) = (g.2.1.length : Int) ∧ (g.2.1.length : Int) ≤ (g.2.1.length : Int) ∧
  (0 : Int) ≤ 0 ∧ 0 ≤ (g.2.2.1.length : Int) ∧ (g.2.2.1.length : Int) = (g.2.2.1.length : Int) ∧ (g.2.2.1.length : Int) ≤ (g.2.2.1.length : Int) ∧
  bif decide (((((g.2.1.take ((g.2.1.length : Int).toNat)).drop ((0 : Int).toNat)).length : Nat) : Int) ≤ g.2.2.2.1) then (
    sp46.pre ((g.2.1.take ((g.2.1.length : Int).toNat)).drop ((0 : Int).toNat), IntKind.i64.wrap ((IntKind.i64.wrap (g.2.2.2.1 + 1)) - ((((g.2.1.take ((g.2.1.length : Int).toNat)).drop ((0 : Int).toNat)).length : Nat) : Int)), ()) ∧
    (0 : Int) ≤ 0 ∧ 0 ≤ IntKind.i64.wrap (g.2.2.2.1 + 1) ∧ ((0 : Nat) : Int) + (IntKind.i64.wrap (g.2.2.2.1 + 1)) ≤ ((((g.2.1.take ((g.2.1.length : Int).toNat)).drop ((0 : Int).toNat)) ++ List.replicate (IntKind.i64.wrap ((IntKind.i64.wrap (g.2.2.2.1 + 1)) - ((((g.2.1.take ((g.2.1.length : Int).toNat)).drop ((0 : Int).toNat)).length : Nat) : Int))).toNat false).length : Int) ∧
    sp47.pre ((g.2.2.1.take ((g.2.2.1.length : Int).toNat)).drop ((0 : Int).toNat), IntKind.i64.wrap ((IntKind.i64.wrap (g.2.2.2.1 + 1)) - ((((g.2.2.1.take ((g.2.2.1.length : Int).toNat)).drop ((0 : Int).toNat)).length : Nat) : Int)), ()) ∧
    (0 : Int) ≤ 0 ∧ 0 ≤ IntKind.i64.wrap (g.2.2.2.1 + 1) ∧ ((0 : Nat) : Int) + (IntKind.i64.wrap (g.2.2.2.1 + 1)) ≤ ((((g.2.2.1.take ((g.2.2.1.length : Int).toNat)).drop ((0 : Int).toNat)) ++ List.replicate (IntKind.i64.wrap ((IntKind.i64.wrap (g.2.2.2.1 + 1)) - ((((g.2.2.1.take ((g.2.2.1.length : Int).toNat)).drop ((0 : Int).toNat)).length : Nat) : Int))).toNat (⟨#[]⟩ : ByteArray)).length : Int) ∧
    (0 : Int) ≤ (g.2.1.length : Int) ∧ (g.2.1.length : Int) ≤ (((IntKind.i64.wrap (g.2.2.2.1 + 1)).toNat - (0 : Int).toNat : Nat) : Int) ∧ ((0 + (0 : Int).toNat : Nat) : Int) + (((IntKind.i64.wrap (g.2.2.2.1 + 1)).toNat - (0 : Int).toNat : Nat) : Int) ≤ ((((g.2.1.take ((g.2.1.length : Int).toNat)).drop ((0 : Int).toNat)) ++ List.replicate (IntKind.i64.wrap ((IntKind.i64.wrap (g.2.2.2.1 + 1)) - ((((g.2.1.take ((g.2.1.length : Int).toNat)).drop ((0 : Int).toNat)).length : Nat) : Int))).toNat false).length : Int) ∧
    (0 : Int) ≤ (g.2.2.1.length : Int) ∧ (g.2.2.1.length : Int) ≤ (((IntKind.i64.wrap (g.2.2.2.1 + 1)).toNat - (0 : Int).toNat : Nat) : Int) ∧ ((0 + (0 : Int).toNat : Nat) : Int) + (((IntKind.i64.wrap (g.2.2.2.1 + 1)).toNat - (0 : Int).toNat : Nat) : Int) ≤ ((((g.2.2.1.take ((g.2.2.1.length : Int).toNat)).drop ((0 : Int).toNat)) ++ List.replicate (IntKind.i64.wrap ((IntKind.i64.wrap (g.2.2.2.1 + 1)) - ((((g.2.2.1.take ((g.2.2.1.length : Int).toNat)).drop ((0 : Int).toNat)).length : Nat) : Int))).toNat (⟨#[]⟩ : ByteArray)).length : Int) ∧
    0 ≤ g.2.2.2.1 ∧ g.2.2.2.1.toNat < (IntKind.i64.wrap (g.2.2.2.1 + 1)).toNat - (0 : Int).toNat ∧
  atI (clearAt (((g.2.1.take ((g.2.1.length : Int).toNat)).drop ((0 : Int).toNat)) ++ List.replicate (IntKind.i64.wrap ((IntKind.i64.wrap (g.2.2.2.1 + 1)) - ((((g.2.1.take ((g.2.1.length : Int).toNat)).drop ((0 : Int).toNat)).length : Nat) : Int))).toNat false) ((0 + (0 : Int).toNat) + (g.2.1.length : Int).toNat) ((((IntKind.i64.wrap (g.2.2.2.1 + 1)).toNat - (0 : Int).toNat : Nat) : Int).toNat - (g.2.1.length : Int).toNat) false) ((0 + (0 : Int).toNat) + g.2.2.2.1.toNat) fun x1 =>
  0 ≤ g.2.2.2.1 ∧ g.2.2.2.1.toNat < (IntKind.i64.wrap (g.2.2.2.1 + 1)).toNat - (0 : Int).toNat ∧
  atI (clearAt (((g.2.2.1.take ((g.2.2.1.length : Int).toNat)).drop ((0 : Int).toNat)) ++ List.replicate (IntKind.i64.wrap ((IntKind.i64.wrap (g.2.2.2.1 + 1)) - ((((g.2.2.1.take ((g.2.2.1.length : Int).toNat)).drop ((0 : Int).toNat)).length : Nat) : Int))).toNat (⟨#[]⟩ : ByteArray)) ((0 + (0 : Int).toNat) + (g.2.2.1.length : Int).toNat) ((((IntKind.i64.wrap (g.2.2.2.1 + 1)).toNat - (0 : Int).toNat : Nat) : Int).toNat - (g.2.2.1.length : Int).toNat) (⟨#[]⟩ : ByteArray)) ((0 + (0 : Int).toNat) + g.2.2.2.1.toNat) fun x2 =>
  K (.ag [.int .i64 g.1, .sl false .boo ((((clearAt (((g.2.1.take ((g.2.1.length : Int).toNat)).drop ((0 : Int).toNat)) ++ List.replicate (IntKind.i64.wrap ((IntKind.i64.wrap (g.2.2.2.1 + 1)) - ((((g.2.1.take ((g.2.1.length : Int).toNat)).drop ((0 : Int).toNat)).length : Nat) : Int))).toNat false) ((0 + (0 : Int).toNat) + (g.2.1.length : Int).toNat) ((((IntKind.i64.wrap (g.2.2.2.1 + 1)).toNat - (0 : Int).toNat : Nat) : Int).toNat - (g.2.1.length : Int).toNat) false).set ((0 + (0 : Int).toNat) + g.2.2.2.1.toNat) true).drop (0 + (0 : Int).toNat)).take ((IntKind.i64.wrap (g.2.2.2.1 + 1)).toNat - (0 : Int).toNat)), .sl false .str ((((clearAt (((g.2.2.1.take ((g.2.2.1.length : Int).toNat)).drop ((0 : Int).toNat)) ++ List.replicate (IntKind.i64.wrap ((IntKind.i64.wrap (g.2.2.2.1 + 1)) - ((((g.2.2.1.take ((g.2.2.1.length : Int).toNat)).drop ((0 : Int).toNat)).length : Nat) : Int))).toNat (⟨#[]⟩ : ByteArray)) ((0 + (0 : Int).toNat) + (g.2.2.1.length : Int).toNat) ((((IntKind.i64.wrap (g.2.2.2.1 + 1)).toNat - (0 : Int).toNat : Nat) : Int).toNat - (g.2.2.1.length : Int).toNat) (⟨#[]⟩ : ByteArray)).set ((0 + (0 : Int).toNat) + g.2.2.2.1.toNat) g.2.2.2.2.1).drop (0 + (0 : Int).toNat)).take ((IntKind.i64.wrap (g.2.2.2.1 + 1)).toNat - (0 : Int).toNat))]) [])
  else (
    sp42.pre ((g.2.1.take ((g.2.1.length : Int).toNat)).drop ((0 : Int).toNat), ()) ∧
    sp29.pre ((g.2.2.1.take ((g.2.2.1.length : Int).toNat)).drop ((0 : Int).toNat), ()) ∧
    0 ≤ g.2.2.2.1 ∧ g.2.2.2.1.toNat < ((g.2.1.take ((g.2.1.length : Int).toNat)).drop ((0 : Int).toNat)).length ∧
  atI ((g.2.1.take ((g.2.1.length : Int).toNat)).drop ((0 : Int).toNat)) g.2.2.2.1.toNat fun x3 =>
  0 ≤ g.2.2.2.1 ∧ g.2.2.2.1.toNat < ((g.2.2.1.take ((g.2.2.1.length : Int).toNat)).drop ((0 : Int).toNat)).length ∧
  atI ((g.2.2.1.take ((g.2.2.1.length : Int).toNat)).drop ((0 : Int).toNat)) g.2.2.2.1.toNat fun x4 =>
  K (.ag [.int .i64 g.1, .sl false .boo (((g.2.1.take ((g.2.1.length : Int).toNat)).drop ((0 : Int).toNat)).set g.2.2.2.1.toNat true), .sl false .str (((g.2.2.1.take ((g.2.2.1.length : Int).toNat)).drop ((0 : Int).toNat)).set g.2.2.2.1.toNat g.2.2.2.2.1)]) [])
theorem F40_eq (g : prodL L40) (K X : Kn) : F40 g K = dfun D (gamX [] [(29, false, sp29), (42, false, sp42), (46, false, sp46), (47, false, sp47)]) (isRaw []) H40 J40 77 [.cell 6 41] (codeOf Try.f40) (argsT S40 L40 g) [] (settle0 K) X := by kernel_rfl
theorem F40_ok (g : prodL L40) (K X : Kn) (h : F40 g K) : FCalls Try.prog 40 (argsT S40 L40 g) [] K X :=
  FCalls.settle0 (dfun_sound (Γ := gamX [] [(29, false, sp29), (42, false, sp42), (46, false, sp46), (47, false, sp47)]) (mu := isRaw []) (H := H40) (J := J40) D_ok (gamX_ok (rs := []) (l := [(29, false, sp29), (42, false, sp42), (46, false, sp46), (47, false, sp47)]) (fun p hp => by cases hp) (by intro p hp; simp only [List.mem_cons, List.not_mem_nil, or_false] at hp; rcases hp with rfl | rfl | rfl | rfl <;> first | exact sp29_ok | exact sp42_ok | exact sp46_ok | exact sp47_ok)) gamX_det rfl Try.func40 (c := codeOf Try.f40) rfl Try.ntmps40 (rs := [.cell 6 41]) Try.results40 (by unfold enters; rw [Try.func40]; kernel_rfl) (Nat.le_of_ble_eq_true (by kernel_rfl)) (X := X) (c0 := 0) (Eq.mp (F40_eq g K X) h))
end Go.Proofs.Ytofjpelbjehddaa
