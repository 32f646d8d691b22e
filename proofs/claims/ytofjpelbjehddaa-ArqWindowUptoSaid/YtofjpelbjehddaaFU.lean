/-
  Arq: what its functions yield, in plain terms, 3.
-/
import Derived.Test.YtofjpelbjehddaaFC
namespace Go.Proofs.Ytofjpelbjehddaa
set_option linter.unusedVariables false
set_option linter.unusedSimpArgs false
set_option linter.unusedSectionVars false
open Go.RowKit

theorem F29_is {l : List ByteArray} {K : Kn} (hr : l.length ≤ 4294967296) (h : K (.oa .str 0 0) [some (.arr 0 .str l)]) : F29 (l, ()) K := by
  unfold F29 F29_J2
  dsimp only [Lf.ty, prodL]
  have hR : Room l.length 16 (K (.oa .str 0 0) [some (.arr 0 .str l)]) := ⟨by omega, h⟩
  by_cases h0 : l.length = 0
  · rw [decide_eq_true h0, cond_true]
    have : l = [] := List.eq_nil_of_length_eq_zero h0
    subst this
    exact ⟨h, hR⟩
  · rw [decide_eq_false h0, cond_false]
    exact hR
def sp29 : Sp := ⟨S29, L29, fun g => g.1.length ≤ 4294967296, fun _ => .oa .str 0 0, fun g => some (.arr 0 .str g.1)⟩
theorem sp29_ok : sp29.Ok Try.prog 29 false :=
  ⟨fun _ _ X hp h => F29_ok _ _ X (F29_is hp h), fun _ _ _ => rfl, fun _ => rfl, fun h => by cases h⟩
theorem F30_is {l : List Int} {K : Kn} (hr : l.length ≤ 4294967296) (h : K (.oa .i64 0 0) [some (.arr 0 .i64 l)]) : F30 (l, ()) K := by
  unfold F30 F30_J2
  dsimp only [Lf.ty, prodL]
  have hR : Room l.length 8 (K (.oa .i64 0 0) [some (.arr 0 .i64 l)]) := ⟨by omega, h⟩
  by_cases h0 : l.length = 0
  · rw [decide_eq_true h0, cond_true]
    have : l = [] := List.eq_nil_of_length_eq_zero h0
    subst this
    exact ⟨h, hR⟩
  · rw [decide_eq_false h0, cond_false]
    exact hR
def sp30 : Sp := ⟨S30, L30, fun g => g.1.length ≤ 4294967296, fun _ => .oa .i64 0 0, fun g => some (.arr 0 .i64 g.1)⟩
theorem sp30_ok : sp30.Ok Try.prog 30 false :=
  ⟨fun _ _ X hp h => F30_ok _ _ X (F30_is hp h), fun _ _ _ => rfl, fun _ => rfl, fun h => by cases h⟩
theorem F42_is {l : List Bool} {K : Kn} (hr : l.length ≤ 4294967296) (h : K (.oa .boo 0 0) [some (.arr 0 .boo l)]) : F42 (l, ()) K := by
  unfold F42 F42_J2
  dsimp only [Lf.ty, prodL]
  have hR : Room l.length 1 (K (.oa .boo 0 0) [some (.arr 0 .boo l)]) := ⟨by omega, h⟩
  by_cases h0 : l.length = 0
  · rw [decide_eq_true h0, cond_true]
    have : l = [] := List.eq_nil_of_length_eq_zero h0
    subst this
    exact ⟨h, hR⟩
  · rw [decide_eq_false h0, cond_false]
    exact hR
def sp42 : Sp := ⟨S42, L42, fun g => g.1.length ≤ 4294967296, fun _ => .oa .boo 0 0, fun g => some (.arr 0 .boo g.1)⟩
theorem sp42_ok : sp42.Ok Try.prog 42 false :=
  ⟨fun _ _ X hp h => F42_ok _ _ X (F42_is hp h), fun _ _ _ => rfl, fun _ => rfl, fun h => by cases h⟩

def elemsErr (w : Int) : Nat → List ByteArray → List Int → Int
  | i, d :: ds, t :: ts => if elemErr w i d t = 0 then elemsErr w (i + 1) ds ts else elemErr w i d t
  | _, _, _ => 0
def Snd.err (s : Snd) : Int :=
  if s.window < 1 ∨ 64 < s.window ∨ okN s.base = false then 2 else if 1000 < s.data.length then 17 else if s.sent.length ≠ s.data.length then 1 else
  if elemsErr s.window 0 s.data s.sent ≠ 0 then elemsErr s.window 0 s.data s.sent else if 1099511627776 < s.base + (s.data.length : Int) then 4 else 0
theorem check_loop {γ : Type} {w : Int} {data : List ByteArray} {sent : List Int} {S : Int → γ} {body : (γ → Prop) → γ → Prop} {A : Int → Prop} {B : Prop} (hl : sent.length = data.length) (hr : data.length ≤ 1000)
    (h1 : ∀ (W : γ → Prop) (n : Nat) (h : n < data.length), (elemErr w n data[n] (sent[n]'(by omega)) = 0 → W (S ((n + 1 : Nat) : Int))) → (elemErr w n data[n] (sent[n]'(by omega)) ≠ 0 → A (elemErr w n data[n] (sent[n]'(by omega)))) → body W (S (n : Int)))
    (h2 : ∀ (W : γ → Prop), B → body W (S (data.length : Int))) (hA : elemsErr w 0 data sent ≠ 0 → A (elemsErr w 0 data sent)) (hB : elemsErr w 0 data sent = 0 → B) : LoopW body (S 0) := by
  refine LoopW.countTo data.length (fun n => S (n : Int)) (fun n => elemsErr w 0 data sent = elemsErr w n (data.drop n) (sent.drop n)) rfl (fun n hn hp W hW => ?_) (by simp)
  by_cases hlt : n < data.length
  · have hs : n < sent.length := by omega
    have e : elemsErr w n (data.drop n) (sent.drop n) = if elemErr w n data[n] sent[n] = 0 then elemsErr w (n + 1) (data.drop (n + 1)) (sent.drop (n + 1)) else elemErr w n data[n] sent[n] := by
      rw [List.drop_eq_getElem_cons hlt, List.drop_eq_getElem_cons hs]; rfl
    rw [e] at hp
    refine h1 W n hlt (fun h0 => hW hlt (by rw [if_pos h0] at hp; exact hp)) fun h0 => ?_
    rw [if_neg h0] at hp
    rw [← hp]
    exact hA (by rw [hp]; exact h0)
  · have hn' : n = data.length := by omega
    subst hn'
    refine h2 W (hB ?_)
    rw [hp]
    simp [elemsErr]
theorem F19_is {s : Snd} {K : Kn} (h : K (.int .i64 s.err) []) : F19 (s.base, s.window, s.data, s.sent, ()) K := by
  obtain ⟨b, w, data, sent⟩ := s
  unfold Snd.err at h
  unfold F19 F19_J2
  dsimp only [Lf.ty, prodL] at h ⊢
  by_cases h1 : w < 1
  · rw [if_pos (.inl h1)] at h
    rw [decide_eq_true h1, cond_true, cond_true]; exact h
  rw [decide_eq_false h1, cond_false]
  by_cases h2 : 64 < w
  · rw [if_pos (.inr (.inl h2))] at h
    rw [decide_eq_true h2, cond_true, cond_true]; exact h
  rw [decide_eq_false h2, cond_false]
  refine ⟨trivial, ?_⟩
  cases h3 : okN b
  · rw [if_pos (.inr (.inr h3))] at h
    rw [Bool.not_false, cond_true]; exact h
  rw [if_neg (by simp [h1, h2, h3])] at h
  rw [Bool.not_true, cond_false]
  by_cases h4 : 1000 < data.length
  · rw [if_pos h4] at h
    rw [show decide (1000 < (data.length : Int)) = true by simp; omega, cond_true]; exact h
  rw [if_neg h4] at h
  rw [show decide (1000 < (data.length : Int)) = false by simp; omega, cond_false]
  by_cases h5 : sent.length = data.length
  case neg =>
    rw [if_pos h5] at h
    rw [show decide ((sent.length : Int) = (data.length : Int)) = false by simp; omega, Bool.not_false, cond_true]; exact h
  rw [if_neg (by simp [h5])] at h
  rw [show decide ((sent.length : Int) = (data.length : Int)) = true by simp; omega, Bool.not_true, cond_false]
  have hb : 0 ≤ b ∧ b ≤ 1099511627776 := of_decide_eq_true h3
  unfold F19_L4
  refine check_loop (w := w) (data := data) (sent := sent) (S := fun i => ((data.length : Int), i, b, w, data, sent, ())) (A := fun e => K (.int .i64 e) []) (B := K (.int .i64 (if 1099511627776 < b + (data.length : Int) then 4 else 0)) []) h5 (by omega) (fun W n hlt hW hA => ?_) (fun W hB => ?_) (fun hne => by rwa [if_pos hne] at h) fun he => by rwa [if_neg (by simp [he])] at h
  · have hs : n < sent.length := by omega
    have e : elemAt w data sent (n : Int) = elemErr w n data[n] sent[n] := by unfold elemAt; simp [hlt, hs]
    dsimp only
    unfold F19_B4
    rw [show decide ((n : Int) < (data.length : Int)) = true by simp; omega, cond_true]
    refine ⟨show 0 ≤ (n : Int) ∧ (n : Int) < (data.length : Int) ∧ (n : Int) < (sent.length : Int) from ⟨by omega, by omega, by omega⟩, ?_⟩
    rw [e]
    by_cases he : elemErr w n data[n] sent[n] = 0
    · rw [decide_eq_true he, Bool.not_true, cond_false, wrapS hlt (by omega)]
      exact hW he
    · rw [decide_eq_false he, Bool.not_false, cond_true]
      exact hA he
  · dsimp only
    unfold F19_B4
    rw [show decide ((data.length : Int) < (data.length : Int)) = false by simp, cond_false, wrap64 (by omega) (by omega)]
    by_cases h6 : 1099511627776 < b + (data.length : Int)
    · rw [if_pos h6] at hB
      rw [decide_eq_true h6, cond_true]; exact hB
    · rw [if_neg h6] at hB
      rw [decide_eq_false h6, cond_false]; exact hB
def sp19 : Sp := ⟨S19, L19, fun _ => True, fun g => .int .i64 (Snd.err ⟨g.1, g.2.1, g.2.2.1, g.2.2.2.1⟩), fun _ => none⟩
theorem sp19_ok : sp19.Ok Try.prog 19 true :=
  ⟨fun g _ X _ h => F19_ok _ _ X (F19_is (s := ⟨g.1, g.2.1, g.2.2.1, g.2.2.2.1⟩) h), fun _ _ _ => rfl, fun _ => rfl, fun _ _ => ⟨rfl, rfl⟩⟩
theorem F20_is {s : Snd} {K : Kn} (h : K (.int .i64 s.err) []) : F20 (s.base, s.window, s.data, s.sent, ()) K := by
  obtain ⟨b, w, data, sent⟩ := s
  unfold Snd.err at h
  unfold F20 F20_J2
  dsimp only [Lf.ty, prodL] at h ⊢
  by_cases h1 : w < 1
  · rw [if_pos (.inl h1)] at h
    rw [decide_eq_true h1, cond_true, cond_true]; exact h
  rw [decide_eq_false h1, cond_false]
  by_cases h2 : 64 < w
  · rw [if_pos (.inr (.inl h2))] at h
    rw [decide_eq_true h2, cond_true, cond_true]; exact h
  rw [decide_eq_false h2, cond_false]
  refine ⟨trivial, ?_⟩
  cases h3 : okN b
  · rw [if_pos (.inr (.inr h3))] at h
    rw [Bool.not_false, cond_true]; exact h
  rw [if_neg (by simp [h1, h2, h3])] at h
  rw [Bool.not_true, cond_false]
  by_cases h4 : 1000 < data.length
  · rw [if_pos h4] at h
    rw [show decide (1000 < (data.length : Int)) = true by simp; omega, cond_true]; exact h
  rw [if_neg h4] at h
  rw [show decide (1000 < (data.length : Int)) = false by simp; omega, cond_false]
  by_cases h5 : sent.length = data.length
  case neg =>
    rw [if_pos h5] at h
    rw [show decide ((sent.length : Int) = (data.length : Int)) = false by simp; omega, Bool.not_false, cond_true]; exact h
  rw [if_neg (by simp [h5])] at h
  rw [show decide ((sent.length : Int) = (data.length : Int)) = true by simp; omega, Bool.not_true, cond_false]
  have hb : 0 ≤ b ∧ b ≤ 1099511627776 := of_decide_eq_true h3
  unfold F20_L4
  refine check_loop (w := w) (data := data) (sent := sent) (S := fun i => (i, b, w, data, sent, ())) (A := fun e => K (.int .i64 e) []) (B := K (.int .i64 (if 1099511627776 < b + (data.length : Int) then 4 else 0)) []) h5 (by omega) (fun W n hlt hW hA => ?_) (fun W hB => ?_) (fun hne => by rwa [if_pos hne] at h) fun he => by rwa [if_neg (by simp [he])] at h
  · have hs : n < sent.length := by omega
    dsimp only
    unfold F20_B4 F20_J9
    rw [show decide ((n : Int) < (data.length : Int)) = true by simp; omega, cond_true, wrapS hlt (by omega)]
    refine At_of hlt ⟨trivial, ?_⟩
    unfold elemErr at hW hA
    by_cases e1 : 65472 < data[n].size
    · rw [show fitsB data[n] = false by unfold fitsB; simp; omega, Bool.not_false, cond_true]
      have := hA (by rw [if_pos e1]; decide)
      rwa [if_pos e1] at this
    rw [if_neg e1] at hW hA
    rw [show fitsB data[n] = true by unfold fitsB; simp; omega, Bool.not_true, cond_false]
    refine At_of hs ?_
    by_cases e2 : sent[n] = -1
    · rw [decide_eq_true e2, Bool.not_true, cond_false, cond_false]
      exact hW (by rw [if_neg (by omega)])
    rw [decide_eq_false e2, Bool.not_false, cond_true]
    refine At_of hs ⟨trivial, ?_⟩
    cases e3 : okN sent[n]
    · rw [Bool.not_false, cond_true, cond_true]
      have e3 := of_decide_eq_false e3
      have hc : sent[n] < -1 ∨ 1099511627776 < sent[n] ∨ (w ≤ (n : Int) ∧ sent[n] ≠ -1) := by omega
      have := hA (by rw [if_pos hc]; decide)
      rwa [if_pos hc] at this
    rw [Bool.not_true, cond_false]
    have e3 := of_decide_eq_true e3
    by_cases e4 : w ≤ (n : Int)
    · rw [decide_eq_true e4, cond_true]
      have hc : sent[n] < -1 ∨ 1099511627776 < sent[n] ∨ (w ≤ (n : Int) ∧ sent[n] ≠ -1) := .inr (.inr ⟨e4, e2⟩)
      have := hA (by rw [if_pos hc]; decide)
      rwa [if_pos hc] at this
    · rw [decide_eq_false e4, cond_false]
      exact hW (by rw [if_neg (by omega)])
  · dsimp only
    unfold F20_B4
    rw [show decide ((data.length : Int) < (data.length : Int)) = false by simp, cond_false, wrap64 (by omega) (by omega)]
    by_cases h6 : 1099511627776 < b + (data.length : Int)
    · rw [if_pos h6] at hB
      rw [decide_eq_true h6, cond_true]; exact hB
    · rw [if_neg h6] at hB
      rw [decide_eq_false h6, cond_false]; exact hB
def sp20 : Sp := ⟨S20, L20, fun _ => True, fun g => .int .i64 (Snd.err ⟨g.1, g.2.1, g.2.2.1, g.2.2.2.1⟩), fun _ => none⟩
theorem sp20_ok : sp20.Ok Try.prog 20 true :=
  ⟨fun g _ X _ h => F20_ok _ _ X (F20_is (s := ⟨g.1, g.2.1, g.2.2.1, g.2.2.2.1⟩) h), fun _ _ _ => rfl, fun _ => rfl, fun _ _ => ⟨rfl, rfl⟩⟩
end Go.Proofs.Ytofjpelbjehddaa
