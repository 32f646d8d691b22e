/-
  Link: what its functions yield, in plain terms, 4.
-/
import Derived.Test.YthjikjhddddplaaFC
namespace Go.Proofs.Ythjikjhddddplaa
set_option linter.unusedVariables false
set_option linter.unusedSimpArgs false
open Go.RowKit

theorem F34_is {l : List Int} {K : Kn} (hr : l.length ≤ 4294967296) (h : K (.int .i64 (negIx l)) []) : F34 (l, ()) K := by
  unfold F34
  dsimp only [Lf.ty, prodL]
  refine LoopW.count l.length (fun n => (l, (l.length : Int), (n : Int), ())) (fun n => ∀ x ∈ l.take n, ¬ x < 0) (fun n hn hp W hW => ?_) (by simp)
  dsimp only
  unfold negIx at h
  by_cases hlt : n < l.length
  · rw [show decide ((n : Int) < (l.length : Int)) = true by simp; omega, cond_true]
    refine At_of hlt ⟨trivial, ?_⟩
    by_cases h0 : l[n] < 0
    · rw [decide_eq_true h0, cond_true]
      have : l.findIdx? (fun n => decide (n < 0)) = some n := List.findIdx?_eq_some_iff_getElem.2 ⟨hlt, by simpa using h0, fun j hj => by
        have := hp l[j] (by rw [List.mem_take_iff_getElem]; exact ⟨j, by omega, rfl⟩)
        simpa using this⟩
      rw [this] at h
      exact h
    · rw [decide_eq_false h0, cond_false, wrapS hlt hr]
      refine hW hlt fun x hx => ?_
      rw [take_snoc hlt] at hx
      rcases List.mem_append.1 hx with h1 | h1
      · exact hp x h1
      · simp at h1; subst h1; exact h0
  · rw [show decide ((n : Int) < (l.length : Int)) = false by simp; omega, cond_false]
    rw [List.take_of_length_le (by omega)] at hp
    rw [List.findIdx?_eq_none_iff.2 (fun x hx => by have := hp x hx; simpa using this)] at h
    exact h
def sp34 : Sp := ⟨S34, L34, fun g => g.1.length ≤ 4294967296, fun g => .int .i64 (negIx g.1), fun _ => none⟩
theorem sp34_ok : sp34.Ok Try.prog 34 true :=
  ⟨fun _ _ X hp h => F34_ok _ _ X (F34_is hp h), fun _ _ _ => rfl, fun _ => rfl, fun _ _ => ⟨rfl, rfl⟩⟩
end Go.Proofs.Ythjikjhddddplaa
