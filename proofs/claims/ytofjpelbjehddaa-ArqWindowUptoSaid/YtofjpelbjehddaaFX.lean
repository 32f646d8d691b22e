/-
  Arq: what its functions yield, in plain terms, 6: put.
-/
import Derived.Test.YtofjpelbjehddaaFG2
namespace Go.Proofs.Ytofjpelbjehddaa
set_option linter.unusedVariables false
set_option linter.unusedSimpArgs false
set_option linter.unusedSectionVars false
open Go.RowKit

def putL {α : Type} (z : α) (l : List α) (i : Nat) (x : α) : List α := (l ++ List.replicate (i + 1 - l.length) z).set i x
theorem clear_rep {α : Type} {l : List α} {n : Nat} {z : α} : clearAt (l ++ List.replicate n z) l.length n z = l ++ List.replicate n z := by
  unfold clearAt
  rw [List.take_left' rfl, List.drop_of_length_le (by simp), List.append_nil]
theorem F40_is {nx : Int} {hv : List Bool} {data : List ByteArray} {i : Nat} {d : ByteArray} {K : Kn} (hi : i ≤ 1000) (h2 : data.length = hv.length) (h3 : hv.length ≤ 64) (h : K (.ag [.int .i64 nx, .sl false .boo (putL false hv i true), .sl false .str (putL ⟨#[]⟩ data i d)]) []) : F40 (nx, hv, data, (i : Int), d, ()) K := by
  unfold F40
  unfold putL at h
  dsimp only [Lf.ty, prodL]
  have e1 : (hv.take (hv.length : Int).toNat).drop (0 : Int).toNat = hv := by rw [Int.toNat_natCast, List.take_of_length_le (Nat.le_refl _)]; rfl
  have e2 : (data.take (data.length : Int).toNat).drop (0 : Int).toNat = data := by rw [Int.toNat_natCast, List.take_of_length_le (Nat.le_refl _)]; rfl
  rw [e1, e2, wrap64 (n := (i : Int) + 1) (by omega) (by omega)]
  rw [show (i : Int) + 1 = ((i + 1 : Nat) : Int) from rfl, Int.toNat_natCast, Int.toNat_natCast]
  refine ⟨by decide, by omega, rfl, Int.le_refl _, by decide, by omega, rfl, Int.le_refl _, ?_⟩
  rw [h2] at h ⊢
  by_cases hlt : hv.length ≤ i
  · rw [show decide ((hv.length : Int) ≤ (i : Int)) = true from decide_eq_true (by omega), cond_true]
    rw [wrap64 (n := ((i + 1 : Nat) : Int) - (hv.length : Int)) (by omega) (by omega), show ((i + 1 : Nat) : Int) - (hv.length : Int) = ((i + 1 - hv.length : Nat) : Int) by omega, Int.toNat_natCast]
    have l1 : (hv ++ List.replicate (i + 1 - hv.length) false).length = i + 1 := by simp; omega
    have l2 : (data ++ List.replicate (i + 1 - hv.length) (⟨#[]⟩ : ByteArray)).length = i + 1 := by simp; omega
    rw [l1, l2, show i + 1 - (0 : Int).toNat = i + 1 from rfl, show 0 + (0 : Int).toNat = 0 from rfl, Nat.zero_add, Nat.zero_add, Int.toNat_natCast, Int.toNat_natCast, clear_rep]
    have c2 : clearAt (data ++ List.replicate (i + 1 - hv.length) (⟨#[]⟩ : ByteArray)) hv.length (i + 1 - hv.length) ⟨#[]⟩ = data ++ List.replicate (i + 1 - hv.length) (⟨#[]⟩ : ByteArray) := by rw [← h2]; exact clear_rep
    rw [c2]
    refine ⟨⟨(by omega : (0 : Int) < ((i + 1 - hv.length : Nat) : Int)), (by omega : (hv.length : Int) + ((i + 1 - hv.length : Nat) : Int) ≤ 4294967296)⟩, by decide, by omega, by omega, ⟨(by omega : (0 : Int) < ((i + 1 - hv.length : Nat) : Int)), (by omega : (data.length : Int) + ((i + 1 - hv.length : Nat) : Int) ≤ 4294967296)⟩, by decide, by omega, by omega, by omega, by omega, by omega, by omega, by omega, by omega, by omega, by omega, _, List.getElem?_eq_getElem (by omega), by omega, by omega, _, List.getElem?_eq_getElem (by omega), ?_⟩
    rw [List.drop_zero, List.drop_zero, List.take_of_length_le (by rw [List.length_set]; omega), List.take_of_length_le (by rw [List.length_set]; omega)]
    exact h
  · rw [show decide ((hv.length : Int) ≤ (i : Int)) = false from decide_eq_false (by omega), cond_false]
    rw [show i + 1 - hv.length = 0 by omega, List.replicate_zero, List.replicate_zero, List.append_nil, List.append_nil] at h
    exact ⟨by show hv.length ≤ 4294967296; omega, by show data.length ≤ 4294967296; omega, by omega, by omega, _, List.getElem?_eq_getElem (by omega), by omega, by omega, _, List.getElem?_eq_getElem (by omega), h⟩
def sp40 : Sp := ⟨S40, L40, fun g => (0 ≤ g.2.2.2.1 ∧ g.2.2.2.1 ≤ 1000) ∧ g.2.2.1.length = g.2.1.length ∧ g.2.1.length ≤ 64, fun g => .ag [.int .i64 g.1, .sl false .boo (putL false g.2.1 g.2.2.2.1.toNat true), .sl false .str (putL ⟨#[]⟩ g.2.2.1 g.2.2.2.1.toNat g.2.2.2.2.1)], fun _ => none⟩
theorem sp40_ok : sp40.Ok Try.prog 40 false :=
  ⟨fun g _ X hp h => F40_ok _ _ X (by
    obtain ⟨nx, hv, data, i, d, _⟩ := g
    obtain ⟨⟨h0, h1⟩, h2, h3⟩ := hp
    dsimp only [sp40, Lf.ty, prodL] at h0 h1 h2 h3 h ⊢
    obtain ⟨n, rfl⟩ := Int.eq_ofNat_of_zero_le h0
    exact F40_is (by omega) h2 h3 h), fun _ _ _ => rfl, fun _ => rfl, fun h => by cases h⟩
end Go.Proofs.Ytofjpelbjehddaa
