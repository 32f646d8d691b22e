/-
  LinkValid: its text yields true.
-/
import Derived.Test.YthjikjhddddplaaFL5
import Derived.Test.YthjikjhddddplaaGC
import Derived.Test.YthjikjhddddplaaRW
namespace Go.Proofs.Ythjikjhddddplaa
set_option linter.unusedVariables false
set_option linter.unusedSimpArgs false
open Go.RowKit

theorem fltsErr_all {now : Int} {fl : List Flt} : fltsErr now fl = 0 ↔ ∀ f ∈ fl, fltErr now f = 0 := by
  induction fl with
  | nil => simp [fltsErr]
  | cons f r ih =>
    simp only [fltsErr, List.mem_cons, forall_eq_or_imp]
    by_cases h : fltErr now f = 0
    · simp [h, ih]
    · simp [h]
theorem err_zero {l : Lnk} : l.err = 0 ↔ (0 ≤ l.now ∧ l.now ≤ 1099511627776) ∧ l.flights.length ≤ 1000 ∧ (∀ f ∈ l.flights, fltErr l.now f = 0) ∧ l.fates.length ≤ 1000 ∧ ∀ f ∈ l.fates, 0 ≤ f := by
  constructor
  · intro h
    obtain ⟨r1, r2, r3, r4, r5⟩ := err_room h
    refine ⟨⟨r3, r4⟩, r1, fltsErr_all.1 ?_, r2, r5⟩
    rw [err_eq (by omega) (by omega) (by omega)] at h
    exact Classical.byContradiction fun h1 => by rw [if_pos h1] at h; exact h1 h
  · rintro ⟨⟨h1, h2⟩, h3, h4, h5, h6⟩
    rw [err_eq (by omega) (by omega) (by omega), fltsErr_all.2 h4, if_neg (by simp), if_neg (by omega)]
    have : anyNeg l.fates = false := by
      unfold anyNeg
      exact decide_eq_false fun ⟨f, hf, h⟩ => by have := h6 f hf; omega
    rw [this]; rfl
theorem fltErr_zero {now : Int} {f : Flt} : fltErr now f = 0 ↔ pktErr f.pkt = 0 ∧ now < f.due ∧ f.due ≤ now + 9 := by
  unfold fltErr
  by_cases h : pktErr f.pkt = 0
  · rw [if_neg (by simp [h])]
    by_cases h2 : f.due ≤ now ∨ f.due > now + 9
    · rw [if_pos h2]; constructor
      · intro h; cases h
      · omega
    · rw [if_neg h2]; constructor
      · intro _; exact ⟨h, by omega⟩
      · intro _; rfl
  · rw [if_pos h]; simp [h]
theorem send_valid {l : Lnk} {p : Pkt} : ((sendOf l p).2 = 0 → l.err = 0 ∧ (sendOf l p).1.err = 0) ∧ ((sendOf l p).2 ≠ 0 → (sendOf l p).1 = noLnk) := by
  unfold sendOf
  by_cases he : l.err = 0
  case neg => rw [if_pos he]; simp
  rw [if_neg (by simp [he])]
  by_cases hp : pktErr p = 0
  case neg => rw [if_pos hp]; simp [hp]
  rw [if_neg (by simp [hp])]
  by_cases h1000 : (l.flights ++ flightsOf l.now p (delaysOf (fateOf l.fates))).length > 1000
  · rw [if_pos h1000]; simp
  rw [if_neg h1000]
  obtain ⟨⟨r1, r2⟩, r3, r4, r5, r6⟩ := err_zero.1 he
  refine ⟨fun _ => ⟨he, err_zero.2 ⟨⟨r1, r2⟩, by simpa using h1000, fun f hf => ?_, by simp; omega, fun f hf => r6 f (List.mem_of_mem_tail hf)⟩⟩, fun h => absurd rfl h⟩
  rcases List.mem_append.1 hf with hf | hf
  · exact r4 f hf
  · have h0 : 0 ≤ fateOf l.fates := by
      unfold fateOf
      split
      · decide
      · rename_i f r e; exact r6 f (by rw [e]; simp)
    unfold flightsOf at hf
    obtain ⟨d, hd, rfl⟩ := List.mem_map.1 hf
    have := delays_nn h0 d hd
    exact fltErr_zero.2 ⟨hp, by dsimp only; omega, by dsimp only; omega⟩
theorem step_valid {l : Lnk} : ((stepOf l).2.2 = 0 → l.err = 0 ∧ (stepOf l).1.err = 0) ∧ ((stepOf l).2.2 ≠ 0 → (stepOf l).1 = noLnk ∧ (stepOf l).2.1 = []) := by
  unfold stepOf
  by_cases he : l.err = 0
  case neg => rw [if_pos he]; simp
  rw [if_neg (by simp [he])]
  by_cases hm : l.now = 1099511627776
  · rw [if_pos hm]; simp
  rw [if_neg hm]
  obtain ⟨⟨r1, r2⟩, r3, r4, r5, r6⟩ := err_zero.1 he
  refine ⟨fun _ => ⟨he, err_zero.2 ⟨⟨by dsimp only; omega, by dsimp only; omega⟩, Nat.le_trans (List.length_filter_le _ _) r3, fun f hf => ?_, r5, r6⟩⟩, fun h => absurd rfl h⟩
  obtain ⟨hf1, hf2⟩ := List.mem_filter.1 hf
  have hf2 : ¬ f.due ≤ l.now + 1 := by simpa using hf2
  obtain ⟨a, b, c⟩ := fltErr_zero.1 (r4 f hf1)
  exact fltErr_zero.2 ⟨a, by dsimp only; omega, by dsimp only; omega⟩
theorem ft_fits {ft : List Int} (h : ∀ x ∈ ft, wfE .i64 x) : ∀ f ∈ ft, fits64 f := by
  intro f hf
  have this : IntKind.i64.min ≤ (f : Int) ∧ (f : Int) ≤ IntKind.i64.max := h f hf
  simp [IntKind.min, IntKind.max, IntKind.signed, IntKind.bits] at this
  simp only [fits64]
  omega
theorem F5_is {now : Int} {fl : List Flt} {ft : List Int} {to : Int} {data : ByteArray} {K : Kn} (hr : fl.length ≤ 4294967296) (hft : ∀ f ∈ ft, fits64 f) (h : K (.bool true) []) : F5 (now, fl, ft, to, data, ()) K := by
  unfold F5
  refine ⟨hr, ?_⟩
  have done : ∀ b, (b = false → ¬ 200 < (data.size : Int)) → F5_J2 K b now fl ft to data := fun b hb => by
    unfold F5_J2
    cases b with
    | true => exact ⟨trivial, h⟩
    | false =>
      rw [cond_false]
      refine ⟨hft, trivial, ?_⟩
      obtain ⟨s1, s2⟩ := send_valid (l := ⟨now, fl, ft⟩) (p := ⟨to, data⟩)
      obtain ⟨t1, t2⟩ := step_valid (l := ⟨now, fl, ft⟩)
      generalize (⟨now, fl, ft⟩ : Lnk) = l at *
      generalize sendOf l ⟨to, data⟩ = a at *
      generalize stepOf l = b at *
      have hn : ∀ x : Lnk, (⟨x.now, x.flights, x.fates⟩ : Lnk) = x := fun x => rfl
      have hz : (⟨0, [], []⟩ : Lnk) = noLnk := rfl
      have hp16 : sp16.pre (noLnk.now, noLnk.flights, noLnk.fates, 0, [], [], ()) := ⟨by decide, by decide⟩
      have hp14 : ∀ g, sp14.pre g := fun _ => trivial
      have hp11 : sp11.pre () := trivial
      by_cases ha : a.2 = 0 <;> by_cases hb : b.2.2 = 0
      · simp [F5_J4, F5_J6, ha, hb, s1 ha, t1 hb, hp14, hp11, h, hn, hz]
        exact ⟨trivial, trivial, trivial⟩
      · have e := t2 hb
        simp [F5_J4, F5_J6, ha, hb, s1 ha, e.1, e.2, hp14, hp11, h, hn, hz, hp16]
        exact ⟨trivial, trivial⟩
      · have e := s2 ha
        simp [F5_J4, F5_J6, ha, hb, t1 hb, e, hp14, hp11, h, hn, hz, hp16]
        exact ⟨trivial, trivial⟩
      · have e := s2 ha
        have e' := t2 hb
        simp [F5_J4, F5_J6, ha, hb, e, e'.1, e'.2, hp14, hp11, h, hn, hz, hp16]
  cases greatB fl ft with
  | true => exact done true (by simp)
  | false => exact done _ (by simp)
theorem linkValid.calls (g : prodL L5) (hw : wfL L5 g) (hb : bkL L5 g ≤ 1048576) : FCalls Try.prog 5 (argsT S5 L5 g) [] (fun r _ => r = .bool true) fun _ _ => False := by
  obtain ⟨now, fl, ft, to, data, u⟩ := g
  refine F5_ok _ _ _ (F5_is ?_ (ft_fits hw.2.2.1) rfl)
  have := bk_len (e := .flt) (fun x => by simp [bk]) fl
  simp only [bkL] at hb
  omega
end Go.Proofs.Ythjikjhddddplaa
