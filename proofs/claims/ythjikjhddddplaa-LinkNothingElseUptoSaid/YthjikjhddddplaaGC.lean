/-
  Link: the laws yield true.
-/
import Derived.Test.YthjikjhddddplaaFL3
namespace Go.Proofs.Ythjikjhddddplaa
set_option linter.unusedVariables false
set_option linter.unusedSimpArgs false
open Go.RowKit

theorem step_len (l : Lnk) : (stepOf l).1.flights.length ≤ 1000 ∧ (stepOf l).1.fates.length ≤ 1000 ∧ (stepOf l).2.1.length ≤ 1000 := by
  unfold stepOf
  split
  · simp [noLnk]
  · rename_i he
    obtain ⟨r1, r2, _⟩ := err_room (by simpa using he)
    split
    · simp [noLnk]
    · exact ⟨Nat.le_trans (List.length_filter_le _ _) r1, r2, by simp only [List.length_map]; exact Nat.le_trans (List.length_filter_le _ _) r1⟩
theorem send_len (l : Lnk) (p : Pkt) : (sendOf l p).1.flights.length ≤ 1000 ∧ (sendOf l p).1.fates.length ≤ 1000 := by
  unfold sendOf
  split
  · simp [noLnk]
  · rename_i he
    obtain ⟨r1, r2, _⟩ := err_room (by simpa using he)
    split
    · simp [noLnk]
    · split
      · simp [noLnk]
      · rename_i h
        exact ⟨Nat.le_of_not_lt h, by simp; omega⟩
theorem F4_is {now : Int} {fl : List Flt} {ft : List Int} {K : Kn} (hr : fl.length ≤ 4294967296) (h : K (.bool true) []) : F4 (now, fl, ft, ()) K := by
  unfold F4
  dsimp only [Lf.ty, prodL]
  refine ⟨hr, ?_⟩
  cases greatB fl ft with
  | true => exact ⟨trivial, h⟩
  | false =>
    rw [cond_false]
    obtain ⟨l1, l2, l3⟩ := step_len ⟨now, fl, ft⟩
    refine ⟨trivial, trivial, ⟨Nat.le_trans l1 (by decide), Nat.le_trans l2 (by decide)⟩, ?_⟩
    rw [decide_eq_true rfl, cond_true]
    refine ⟨Nat.le_trans l3 (by decide), ?_⟩
    rw [decide_eq_true rfl, cond_true, decide_eq_true rfl, cond_true]
    exact ⟨trivial, h⟩
theorem F3_is {now : Int} {fl : List Flt} {ft : List Int} {to : Int} {data : ByteArray} {K : Kn} (hr : fl.length ≤ 4294967296) (hft : ∀ f ∈ ft, fits64 f) (h : K (.bool true) []) : F3 (now, fl, ft, to, data, ()) K := by
  unfold F3
  dsimp only [Lf.ty, prodL]
  refine ⟨hr, ?_⟩
  cases greatB fl ft with
  | true => exact ⟨trivial, h⟩
  | false =>
    rw [cond_false]
    cases decide (200 < (data.size : Int)) with
    | true => exact ⟨trivial, h⟩
    | false =>
      rw [cond_false]
      obtain ⟨l1, l2⟩ := send_len ⟨now, fl, ft⟩ ⟨to, data⟩
      refine ⟨hft, hft, trivial, trivial, ?_⟩
      rw [decide_eq_true rfl, cond_true]
      refine ⟨⟨Nat.le_trans l1 (by decide), Nat.le_trans l2 (by decide)⟩, ?_⟩
      rw [decide_eq_true rfl, cond_true, decide_eq_true rfl, cond_true]
      refine ⟨trivial, trivial, ?_⟩
      rw [decide_eq_true rfl, cond_true]
      exact ⟨trivial, h⟩
end Go.Proofs.Ythjikjhddddplaa
