/-
  Link: sends and steps in plain terms.
-/
import Derived.Test.YthjikjhddddplaaFL6
namespace Go.Proofs.Ythjikjhddddplaa
set_option linter.unusedVariables false
set_option linter.unusedSimpArgs false
open Go.RowKit

/-- The flights of several packets. -/
def flightsAll (now : Int) : List Int → List Pkt → List Flt
  | _, [] => []
  | ft, p :: r => flightsOf now p (delaysOf (fateOf ft)) ++ flightsAll now ft.tail r
theorem fate_nn {ft : List Int} (h : ∀ f ∈ ft, 0 ≤ f) : 0 ≤ fateOf ft := by
  unfold fateOf
  split
  · decide
  · exact h _ (by simp)
theorem flightsAll_len {now : Int} : ∀ {ft : List Int} {ps : List Pkt}, (flightsAll now ft ps).length ≤ 2 * ps.length
  | _, [] => Nat.le_refl _
  | ft, p :: r => by
    have h1 := flightsAll_len (now := now) (ft := ft.tail) (ps := r)
    have h2 := (delays_le (fateOf ft)).1
    simp only [flightsAll, flightsOf, List.length_append, List.length_map, List.length_cons]
    omega
theorem flightsAll_due {now : Int} : ∀ {ft : List Int} {ps : List Pkt}, (∀ f ∈ ft, 0 ≤ f) → ∀ x ∈ flightsAll now ft ps, now + 1 ≤ x.due ∧ x.due ≤ now + 9 ∧ x.pkt ∈ ps
  | _, [], _, x, h => by simp [flightsAll] at h
  | ft, p :: r, hf, x, h => by
    simp only [flightsAll, List.mem_append] at h
    rcases h with h | h
    · obtain ⟨d, hd, rfl⟩ := List.mem_map.1 h
      have := delays_nn (fate_nn hf) d hd
      exact ⟨by dsimp only; omega, by dsimp only; omega, by simp⟩
    · obtain ⟨a, b, c⟩ := flightsAll_due (fun f h => hf f (List.mem_of_mem_tail h)) x h
      exact ⟨a, b, List.mem_cons_of_mem _ c⟩
theorem send_ok {l : Lnk} {p : Pkt} (he : l.err = 0) (hp : pktErr p = 0) (hr : l.flights.length + 2 ≤ 1000) : sendOf l p = (⟨l.now, l.flights ++ flightsOf l.now p (delaysOf (fateOf l.fates)), l.fates.tail⟩, 0) := by
  unfold sendOf
  have := (delays_le (fateOf l.fates)).1
  rw [if_neg (by simp [he]), if_neg (by simp [hp]), if_neg (by simp [flightsOf]; omega)]
theorem sent_ok : ∀ {ps : List Pkt} {l : Lnk}, l.err = 0 → (∀ p ∈ ps, pktErr p = 0) → l.flights.length + 2 * ps.length ≤ 1000 →
    sentOf l ps = (⟨l.now, l.flights ++ flightsAll l.now l.fates ps, l.fates.drop ps.length⟩, true) ∧ (sentOf l ps).1.err = 0
  | [], l, he, _, _ => by simp [sentOf, flightsAll, he]
  | p :: r, l, he, hp, hr => by
    simp only [List.length_cons] at hr
    have h0 := send_ok he (hp p (by simp)) (by omega)
    have hv := (send_valid (l := l) (p := p)).1 (by rw [h0])
    have hd := (delays_le (fateOf l.fates)).1
    have ih := sent_ok (ps := r) (l := (sendOf l p).1) hv.2 (fun q hq => hp q (List.mem_cons_of_mem _ hq)) (by rw [h0]; simp [flightsOf]; omega)
    rw [sentOf, if_neg (by rw [h0]; simp)]
    refine ⟨?_, ih.2⟩
    rw [ih.1, h0]
    simp [flightsAll]
theorem short_ok {ps : List Pkt} (h : shortB ps = true) : (∀ p ∈ ps, pktErr p = 0) ∧ ps.length ≤ 12 := by
  have h := of_decide_eq_true h
  refine ⟨fun p hp => ?_, h.2⟩
  have := h.1 p hp
  unfold pktErr
  rw [if_neg (by omega), if_neg (by omega)]
/-- A step of a valid link. -/
theorem step_ok {l : Lnk} (he : l.err = 0) (hn : l.now < 1099511627776) : stepOf l = (⟨l.now + 1, l.flights.filter (fun f => !decide (f.due ≤ l.now + 1)), l.fates⟩, (l.flights.filter (fun f => decide (f.due ≤ l.now + 1))).map (·.pkt), 0) := by
  unfold stepOf
  rw [if_neg (by simp [he]), if_neg (by omega)]
theorem step_err {l : Lnk} (he : l.err = 0) (hn : l.now < 1099511627776) : (stepOf l).1.err = 0 := ((step_valid (l := l)).1 (by rw [step_ok he hn])).2
/-- A link after some steps. -/
def after (l : Lnk) (k : Nat) : Lnk := ⟨l.now + k, l.flights.filter (fun f => decide (l.now + k < f.due)), l.fates⟩
theorem after_zero {l : Lnk} (he : l.err = 0) : after l 0 = l := by
  obtain ⟨_, _, h, _⟩ := err_zero.1 he
  have : l.flights.filter (fun f => decide (l.now + ((0 : Nat) : Int) < f.due)) = l.flights := by
    rw [List.filter_eq_self]
    intro f hf
    have := fltErr_zero.1 (h f hf)
    simp; omega
  unfold after
  rw [this]
  cases l; simp
theorem after_step {l : Lnk} (k : Nat) (he : (after l k).err = 0) (hn : l.now + k < 1099511627776) : stepOf (after l k) = (after l (k + 1), (l.flights.filter (fun f => decide (l.now + k < f.due ∧ f.due ≤ l.now + k + 1))).map (·.pkt), 0) := by
  have e1 : (after l k).flights.filter (fun f => !decide (f.due ≤ (after l k).now + 1)) = (after l (k + 1)).flights := by
    show (l.flights.filter _).filter _ = l.flights.filter _
    rw [List.filter_filter]
    refine List.filter_congr fun f _ => ?_
    show (!decide (f.due ≤ l.now + (k : Int) + 1) && decide (l.now + (k : Int) < f.due)) = decide (l.now + ((k + 1 : Nat) : Int) < f.due)
    rw [Bool.eq_iff_iff]
    simp only [Bool.and_eq_true, Bool.not_eq_true', decide_eq_false_iff_not, decide_eq_true_eq]
    omega
  have e2 : (after l k).flights.filter (fun f => decide (f.due ≤ (after l k).now + 1)) = l.flights.filter (fun f => decide (l.now + k < f.due ∧ f.due ≤ l.now + k + 1)) := by
    show (l.flights.filter _).filter _ = l.flights.filter _
    rw [List.filter_filter]
    refine List.filter_congr fun f _ => ?_
    show (decide (f.due ≤ l.now + (k : Int) + 1) && decide (l.now + (k : Int) < f.due)) = decide (l.now + (k : Int) < f.due ∧ f.due ≤ l.now + (k : Int) + 1)
    rw [Bool.eq_iff_iff]
    simp only [Bool.and_eq_true, Bool.not_eq_true', decide_eq_false_iff_not, decide_eq_true_eq]
    omega
  rw [step_ok he (by simpa [after] using hn), e1, e2]
  have e3 : (after l k).now + 1 = (after l (k + 1)).now := by simp [after]; omega
  rw [e3]
  rfl
theorem after_err {l : Lnk} (he : l.err = 0) : ∀ k : Nat, l.now + k ≤ 1099511627776 → (after l k).err = 0
  | 0, _ => by rw [after_zero he]; exact he
  | k + 1, h => by
    have ih := after_err he k (by omega)
    have hn : l.now + (k : Int) < 1099511627776 := by omega
    have := step_err ih (by simpa [after] using hn)
    rwa [after_step k ih hn] at this
theorem after_nine {l : Lnk} (he : l.err = 0) (k : Nat) (hk : 9 ≤ k) : (after l k).flights = [] := by
  obtain ⟨_, _, h, _⟩ := err_zero.1 he
  simp only [after, List.filter_eq_nil_iff]
  intro f hf
  have := fltErr_zero.1 (h f hf)
  simp; omega
theorem new_err {now : Int} {ft : List Int} (h1 : 0 ≤ now) (h2 : now ≤ 1099511627776) (h3 : ft.length ≤ 1000) (h4 : ∀ f ∈ ft, 0 ≤ f) : (⟨now, [], ft⟩ : Lnk).err = 0 := err_zero.2 ⟨⟨h1, h2⟩, by simp, by simp, h3, h4⟩
end Go.Proofs.Ythjikjhddddplaa
