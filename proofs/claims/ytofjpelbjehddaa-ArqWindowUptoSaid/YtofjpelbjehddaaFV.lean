/-
  Arq: what its functions yield, in plain terms, 4: NewSender, Offer, Poll, Acknowledge.
-/
import Derived.Test.YtofjpelbjehddaaFE3
import Derived.Test.YtofjpelbjehddaaFD
namespace Go.Proofs.Ytofjpelbjehddaa
set_option linter.unusedVariables false
set_option linter.unusedSimpArgs false
set_option linter.unusedSectionVars false
open Go.RowKit

/-! ### Valid senders -/
structure SOk (s : Snd) : Prop where
  w1 : 1 ≤ s.window
  w2 : s.window ≤ 64
  b1 : 0 ≤ s.base
  bl : s.base + (s.data.length : Int) ≤ 1099511627776
  dl : s.data.length ≤ 1000
  sl : s.sent.length = s.data.length
  el : ∀ k (h1 : k < s.data.length) (h2 : k < s.sent.length), elemErr s.window (k : Int) s.data[k] s.sent[k] = 0
theorem elems_ok {w : Int} {data : List ByteArray} : ∀ {sent : List Int} {i : Nat}, sent.length = data.length → (elemsErr w i data sent = 0 ↔ ∀ k (h1 : k < data.length) (h2 : k < sent.length), elemErr w ((i + k : Nat) : Int) data[k] sent[k] = 0) := by
  induction data with
  | nil => intro sent i h; cases sent <;> simp_all [elemsErr]
  | cons d ds ih =>
    intro sent i h
    cases sent with
    | nil => simp at h
    | cons t ts =>
      have h' : ts.length = ds.length := by simpa using h
      show (if elemErr w i d t = 0 then elemsErr w (i + 1) ds ts else elemErr w i d t) = 0 ↔ _
      constructor
      · intro h0 k h1 h2
        by_cases e : elemErr w i d t = 0
        · rw [if_pos e] at h0
          cases k with
          | zero => exact e
          | succ k =>
            have := (ih h').1 h0 k (by simpa using h1) (by simpa using h2)
            rw [show i + 1 + k = i + (k + 1) by omega] at this
            exact this
        · rw [if_neg e] at h0; exact absurd h0 e
      · intro hk
        have e : elemErr w i d t = 0 := hk 0 (by simp) (by simp)
        rw [if_pos e]
        refine (ih h').2 fun k h1 h2 => ?_
        have := hk (k + 1) (by simpa using h1) (by simpa using h2)
        rw [show i + 1 + k = i + (k + 1) by omega]
        exact this
theorem Snd.err_iff {s : Snd} : s.err = 0 ↔ SOk s := by
  unfold Snd.err
  constructor
  · intro h
    by_cases c1 : s.window < 1 ∨ 64 < s.window ∨ okN s.base = false
    · rw [if_pos c1] at h; cases h
    rw [if_neg c1] at h
    by_cases c2 : 1000 < s.data.length
    · rw [if_pos c2] at h; cases h
    rw [if_neg c2] at h
    by_cases c3 : s.sent.length ≠ s.data.length
    · rw [if_pos c3] at h; cases h
    rw [if_neg c3] at h
    by_cases c4 : elemsErr s.window 0 s.data s.sent ≠ 0
    · rw [if_pos c4] at h; exact absurd h c4
    rw [if_neg c4] at h
    by_cases c5 : 1099511627776 < s.base + (s.data.length : Int)
    · rw [if_pos c5] at h; cases h
    have hb : okN s.base = true := by cases hh : okN s.base <;> simp_all
    have hb := of_decide_eq_true hb
    have c3 : s.sent.length = s.data.length := Decidable.not_not.1 c3
    refine ⟨by omega, by omega, hb.1, by omega, by omega, c3, fun k h1 h2 => ?_⟩
    have := (elems_ok c3).1 (Decidable.not_not.1 c4) k h1 h2
    rwa [Nat.zero_add] at this
  · rintro ⟨w1, w2, b1, bl, dl, sl, el⟩
    have hb : okN s.base = true := decide_eq_true ⟨b1, by omega⟩
    rw [if_neg (by simp [hb]; omega), if_neg (by omega), if_neg (by simp [sl])]
    have : elemsErr s.window 0 s.data s.sent = 0 := (elems_ok sl).2 fun k h1 h2 => by rw [Nat.zero_add]; exact el k h1 h2
    rw [if_neg (by simp [this]), if_neg (by omega)]
theorem elem_iff {w i : Int} {d : ByteArray} {t : Int} : elemErr w i d t = 0 ↔ d.size ≤ 65472 ∧ -1 ≤ t ∧ t ≤ 1099511627776 ∧ (w ≤ i → t = -1) := by
  unfold elemErr
  by_cases h1 : 65472 < d.size
  · rw [if_pos h1]; constructor
    · intro h; cases h
    · rintro ⟨h, _⟩; omega
  rw [if_neg h1]
  by_cases h2 : t < -1 ∨ 1099511627776 < t ∨ (w ≤ i ∧ t ≠ -1)
  · rw [if_pos h2]; constructor
    · intro h; cases h
    · rintro ⟨_, h3, h4, h5⟩
      rcases h2 with h2 | h2 | h2
      · omega
      · omega
      · exact absurd (h5 h2.1) h2.2
  · rw [if_neg h2]
    exact ⟨fun _ => ⟨by omega, by omega, by omega, fun h => by omega⟩, fun _ => rfl⟩

/-! ### What the functions come to -/
def noSnd : Snd := ⟨0, 0, [], []⟩
abbrev sndT (s : Snd) : T := .ag [.int .i64 s.base, .int .i64 s.window, .sl false .str s.data, .sl false .i64 s.sent]
abbrev sndT2 (r : Snd × Int) : T := .tu [sndT r.1, .int .i64 r.2]
abbrev pollT (r : Snd × List Frm) : T := .tu [sndT r.1, .sl false .frm r.2]
def newOf (n : Int) : Snd × Int := if n < 1 ∨ 64 < n then (noSnd, 2) else (⟨0, n, [], []⟩, 0)
def offerOf (s : Snd) (d : ByteArray) : Snd × Int :=
  if s.err ≠ 0 then (noSnd, 1) else if 65472 < d.size then (noSnd, 4) else if s.data.length = 1000 then (noSnd, 17) else if s.base + (s.data.length : Int) = 1099511627776 then (noSnd, 4) else (⟨s.base, s.window, s.data ++ [d], s.sent ++ [-1]⟩, 0)
def dueB (clock t : Int) : Bool := decide (t < 0 ∨ 4 ≤ clock - t)
def sentTo (sent : List Int) (clock : Int) (k : Nat) : List Int := sent.mapIdx fun i t => if i < k ∧ dueB clock t = true then clock else t
def framesTo (s : Snd) (clock : Int) (k : Nat) : List Frm := (List.range k).filterMap fun i => if dueB clock (s.sent.getD i 0) then some ⟨false, s.base + (i : Int), s.data.getD i ⟨#[]⟩⟩ else none
def pollN (s : Snd) : Nat := min s.window.toNat s.data.length
def pollOf (s : Snd) (clock : Int) : Snd × List Frm := if s.err ≠ 0 ∨ okN clock = false then (s, []) else (⟨s.base, s.window, s.data, sentTo s.sent clock (pollN s)⟩, framesTo s clock (pollN s))
def ackOf (s : Snd) (f : Frm) : Snd × Int :=
  if s.err ≠ 0 then (noSnd, 1) else if f.ack = false then (noSnd, 8) else if frmErr f ≠ 0 then (noSnd, 1) else if f.number - s.base ≤ 0 then (s, 0) else
  if (s.data.length : Int) < f.number - s.base ∨ -1 ∈ s.sent.take (f.number - s.base).toNat then (noSnd, 2) else
  (⟨f.number, s.window, s.data.drop (f.number - s.base).toNat, s.sent.drop (f.number - s.base).toNat⟩, 0)
theorem wk_snd {K : Kn} {n w e : Int} (h : K (sndT2 (⟨n, w, [], []⟩, e)) []) : wkK K (.tu [.ag [.int .i64 n, .int .i64 w, .nil, .nil], .int .i64 e]) [] :=
  ⟨_, .tu (.cons (.ag (.cons (.refl _) (.cons (.refl _) (.cons (.nil .str) (.cons (.nil .i64) .nil))))) (.cons (.refl _) .nil)), h⟩
theorem wk_poll {K : Kn} {s : Snd} (h : K (pollT (s, [])) []) : wkK K (.tu [sndT s, .nil]) [] :=
  ⟨_, .tu (.cons (.refl _) (.cons (.nil .frm) .nil)), h⟩
/-! ### NewSender, Offer -/
theorem F11_is {n : Int} {K : Kn} (h : K (sndT2 (newOf n)) []) : F11 (n, ()) (wkK K) := by
  unfold F11 F11_J2
  unfold newOf at h
  dsimp only [Lf.ty, prodL]
  by_cases h1 : n < 1
  · rw [decide_eq_true h1, cond_true, cond_true]
    rw [if_pos (.inl h1)] at h; exact wk_snd h
  rw [decide_eq_false h1, cond_false]
  by_cases h2 : 64 < n
  · rw [decide_eq_true h2, cond_true]
    rw [if_pos (.inr h2)] at h; exact wk_snd h
  · rw [decide_eq_false h2, cond_false]
    rw [if_neg (by omega)] at h; exact wk_snd h
def sp11 : Sp := ⟨S11, L11, fun _ => True, fun g => sndT2 (newOf g.1), fun _ => none⟩
theorem sp11_ok : sp11.Ok Try.prog 11 false :=
  ⟨fun _ _ X _ h => FCalls.weak (F11_ok _ _ X (F11_is h)), fun _ _ _ => rfl, fun _ => rfl, fun h => by cases h⟩
def sp12 : Sp := ⟨S12, L12, fun _ => True, fun g => sndT2 (newOf g.1), fun _ => none⟩
theorem sp12_ok : sp12.Ok Try.prog 12 false :=
  ⟨fun _ _ X _ h => FCalls.weak (F12_ok _ _ X (F11_is h)), fun _ _ _ => rfl, fun _ => rfl, fun h => by cases h⟩
theorem F13_is {s : Snd} {d : ByteArray} {K : Kn} (h : K (sndT2 (offerOf s d)) []) : F13 (s.base, s.window, s.data, s.sent, d, ()) (wkK K) := by
  obtain ⟨b, w, data, sent⟩ := s
  unfold F13
  unfold offerOf at h
  dsimp only [Lf.ty, prodL] at h ⊢
  refine ⟨trivial, ?_⟩
  by_cases he : Snd.err ⟨b, w, data, sent⟩ = 0
  case neg =>
    rw [if_pos he] at h
    rw [decide_eq_false he, Bool.not_false, cond_true]; exact wk_snd h
  rw [if_neg (by simp [he])] at h
  rw [decide_eq_true he, Bool.not_true, cond_false]
  obtain ⟨w1, w2, b1, bl, dl, sl, -⟩ := Snd.err_iff.1 he
  dsimp only at w1 w2 b1 bl dl sl
  by_cases h1 : 65472 < d.size
  · rw [if_pos h1] at h
    rw [show decide (65472 < (d.size : Int)) = true by simp; omega, cond_true]; exact wk_snd h
  rw [if_neg h1] at h
  rw [show decide (65472 < (d.size : Int)) = false by simp; omega, cond_false]
  by_cases h2 : data.length = 1000
  · rw [if_pos h2] at h
    rw [show decide ((data.length : Int) = 1000) = true by simp; omega, cond_true]; exact wk_snd h
  rw [if_neg h2] at h
  rw [show decide ((data.length : Int) = 1000) = false by simp; omega, cond_false, wrap64 (by omega) (by omega)]
  by_cases h3 : b + (data.length : Int) = 1099511627776
  · rw [if_pos h3] at h
    rw [decide_eq_true h3, cond_true]; exact wk_snd h
  rw [if_neg h3] at h
  rw [decide_eq_false h3, cond_false]
  exact ⟨by show data.length ≤ 4294967296; omega, ⟨by simp only [List.length_singleton]; omega, by show sent.length ≤ 4294967296; omega, by simp only [List.length_singleton]; omega, wkK.same h⟩⟩
theorem F14_is {s : Snd} {d : ByteArray} {K : Kn} (h : K (sndT2 (offerOf s d)) []) : F14 (s.base, s.window, s.data, s.sent, d, ()) (wkK K) := by
  obtain ⟨b, w, data, sent⟩ := s
  unfold F14
  unfold offerOf at h
  dsimp only [Lf.ty, prodL] at h ⊢
  refine ⟨trivial, ?_⟩
  by_cases he : Snd.err ⟨b, w, data, sent⟩ = 0
  case neg =>
    rw [if_pos he] at h
    rw [decide_eq_false he, Bool.not_false, cond_true]; exact wk_snd h
  rw [if_neg (by simp [he])] at h
  rw [decide_eq_true he, Bool.not_true, cond_false]
  obtain ⟨w1, w2, b1, bl, dl, sl, -⟩ := Snd.err_iff.1 he
  dsimp only at w1 w2 b1 bl dl sl
  refine ⟨trivial, ?_⟩
  by_cases h1 : 65472 < d.size
  · rw [if_pos h1] at h
    rw [show fitsB d = false by unfold fitsB; simp; omega, Bool.not_false, cond_true]; exact wk_snd h
  rw [if_neg h1] at h
  rw [show fitsB d = true by unfold fitsB; simp; omega, Bool.not_true, cond_false]
  by_cases h2 : data.length = 1000
  · rw [if_pos h2] at h
    rw [show decide ((data.length : Int) = 1000) = true by simp; omega, cond_true]; exact wk_snd h
  rw [if_neg h2] at h
  rw [show decide ((data.length : Int) = 1000) = false by simp; omega, cond_false, wrap64 (by omega) (by omega)]
  by_cases h3 : b + (data.length : Int) = 1099511627776
  · rw [if_pos h3] at h
    rw [decide_eq_true h3, cond_true]; exact wk_snd h
  rw [if_neg h3] at h
  rw [decide_eq_false h3, cond_false]
  exact ⟨by omega, by simp only [List.length_singleton]; omega, by omega, by simp only [List.length_singleton]; omega, wkK.same h⟩
def sp13 : Sp := ⟨S13, L13, fun _ => True, fun g => sndT2 (offerOf ⟨g.1, g.2.1, g.2.2.1, g.2.2.2.1⟩ g.2.2.2.2.1), fun _ => none⟩
theorem sp13_ok : sp13.Ok Try.prog 13 false :=
  ⟨fun g _ X _ h => FCalls.weak (F13_ok _ _ X (F13_is (s := ⟨g.1, g.2.1, g.2.2.1, g.2.2.2.1⟩) h)), fun _ _ _ => rfl, fun _ => rfl, fun h => by cases h⟩
def sp14 : Sp := ⟨S14, L14, fun _ => True, fun g => sndT2 (offerOf ⟨g.1, g.2.1, g.2.2.1, g.2.2.2.1⟩ g.2.2.2.2.1), fun _ => none⟩
theorem sp14_ok : sp14.Ok Try.prog 14 false :=
  ⟨fun g _ X _ h => FCalls.weak (F14_ok _ _ X (F14_is (s := ⟨g.1, g.2.1, g.2.2.1, g.2.2.2.1⟩) h)), fun _ _ _ => rfl, fun _ => rfl, fun h => by cases h⟩
/-! ### Poll -/
theorem sentTo_len {sent : List Int} {c : Int} {k : Nat} : (sentTo sent c k).length = sent.length := by simp [sentTo]
theorem sentTo_zero {sent : List Int} {c : Int} : sentTo sent c 0 = sent := by
  unfold sentTo
  refine List.ext_getElem (by simp) fun i h1 h2 => by simp
theorem sentTo_get {sent : List Int} {c : Int} {k n : Nat} (h : n < sent.length) : (sentTo sent c k)[n]'(by rw [sentTo_len]; exact h) = if n < k ∧ dueB c sent[n] = true then c else sent[n] := by
  unfold sentTo
  simp
theorem sentTo_succ {sent : List Int} {c : Int} {n : Nat} (h : n < sent.length) : sentTo sent c (n + 1) = if dueB c sent[n] then (sentTo sent c n).set n c else sentTo sent c n := by
  cases hd : dueB c sent[n]
  · refine List.ext_getElem (by simp [sentTo_len]) fun i h1 h2 => ?_
    rw [sentTo_len] at h1
    simp only [Bool.false_eq_true, if_false]
    rw [sentTo_get h1, sentTo_get h1]
    by_cases hi : i = n
    · subst hi; simp [hd]
    · simp [show i < n + 1 ↔ i < n by omega]
  · refine List.ext_getElem (by simp [sentTo_len]) fun i h1 h2 => ?_
    rw [sentTo_len] at h1
    simp only [if_true]
    rw [List.getElem_set, sentTo_get h1]
    by_cases hi : n = i
    · subst hi; simp [hd]
    · rw [if_neg hi, sentTo_get h1]; simp [show i < n + 1 ↔ i < n by omega]
theorem framesTo_succ {s : Snd} {c : Int} {n : Nat} (h1 : n < s.data.length) (h2 : n < s.sent.length) : framesTo s c (n + 1) = if dueB c s.sent[n] then framesTo s c n ++ [(⟨false, s.base + (n : Int), s.data[n]⟩ : Frm)] else framesTo s c n := by
  unfold framesTo
  rw [List.range_succ, List.filterMap_append]
  cases hd : dueB c s.sent[n] <;> simp [List.getD_eq_getElem?_getD, h1, h2, hd]
theorem framesTo_len {s : Snd} {c : Int} {n : Nat} : (framesTo s c n).length ≤ n := by
  unfold framesTo
  exact Nat.le_trans (List.length_filterMap_le _ _) (by simp)
theorem sent_in {s : Snd} (h : SOk s) {n : Nat} (hn : n < s.sent.length) : -1 ≤ s.sent[n] ∧ s.sent[n] ≤ 1099511627776 := by
  have := elem_iff.1 (h.el n (by rw [← h.sl]; exact hn) hn)
  exact ⟨this.2.1, this.2.2.1⟩
theorem atI_of {α : Type} {l : List α} {n : Nat} {x : α} {K : α → Prop} (h : l[n]? = some x) (hK : K x) : 0 ≤ (n : Int) ∧ (n : Int).toNat < l.length ∧ atI l (n : Int).toNat K :=
  ⟨Int.natCast_nonneg _, by rw [Int.toNat_natCast]; exact (List.getElem?_eq_some_iff.1 h).1, x, by rw [Int.toNat_natCast]; exact h, hK⟩
theorem F15_is {s : Snd} {c : Int} {K : Kn} (h : K (pollT (pollOf s c)) []) : F15 (s.base, s.window, s.data, s.sent, c, ()) (wkK K) := by
  obtain ⟨b, w, data, sent⟩ := s
  unfold F15 F15_J2
  unfold pollOf at h
  dsimp only [Lf.ty, prodL] at h ⊢
  refine ⟨trivial, ?_⟩
  by_cases he : Snd.err ⟨b, w, data, sent⟩ = 0
  case neg =>
    rw [if_pos (.inl he)] at h
    rw [decide_eq_false he, Bool.not_false, cond_true, cond_true]; exact wk_poll h
  rw [decide_eq_true he, Bool.not_true, cond_false]
  refine ⟨trivial, ?_⟩
  cases hc : okN c
  · rw [if_pos (.inr hc)] at h
    rw [Bool.not_false, cond_true]; exact wk_poll h
  rw [if_neg (by simp [he, hc])] at h
  rw [Bool.not_true, cond_false]
  have ok := Snd.err_iff.1 he
  obtain ⟨w1, w2, b1, bl, dl, sl, -⟩ := id ok
  dsimp only at w1 w2 b1 bl dl sl
  have hc := of_decide_eq_true hc
  refine ⟨by show sent.length ≤ 4294967296; omega, ?_⟩
  have hN : (if (data.length : Int) < w then (data.length : Int) else w) = ((pollN ⟨b, w, data, sent⟩ : Nat) : Int) := by
    unfold pollN; dsimp only; split <;> omega
  rw [hN]
  have hle : pollN ⟨b, w, data, sent⟩ ≤ data.length := Nat.min_le_right _ _
  unfold F15_L6
  generalize hNN : pollN ⟨b, w, data, sent⟩ = N at *
  refine LoopW.countTo N (fun n => ((N : Int), (n : Int), b, w, data, sent, c, b, w, data, sent, c, sentTo sent c n, framesTo ⟨b, w, data, sent⟩ c n, ())) (fun _ => True) (by rw [sentTo_zero]; rfl) (fun n hn _ W hW => ?_) trivial
  dsimp only
  unfold F15_B6 F15_J16
  by_cases hlt : n < N
  · rw [show decide ((n : Int) < (N : Int)) = true by simp; omega, cond_true]
    have hd : n < data.length := by omega
    have hs : n < sent.length := by omega
    have hl : n < (sentTo sent c n).length := by rw [sentTo_len]; exact hs
    obtain ⟨s1, s2⟩ := sent_in ok hs
    dsimp only at s1 s2
    have hW := hW hlt trivial
    rw [sentTo_succ hs, framesTo_succ hd hs] at hW
    dsimp only at hW
    have hR : Room ((framesTo ⟨b, w, data, sent⟩ c n).length + 1) 32 True := ⟨by have := framesTo_len (s := ⟨b, w, data, sent⟩) (c := c) (n := n); omega, trivial⟩
    refine At_of hs ?_
    by_cases h0 : sent[n] < 0
    · rw [decide_eq_true h0, cond_true]
      rw [show dueB c sent[n] = true from decide_eq_true (.inl h0), if_pos rfl, if_pos rfl] at hW
      dsimp only [Lf.ty, prodL]
      refine atI_of (List.getElem?_eq_getElem hl) (At_of hd ⟨hR.1, ?_⟩)
      rw [wrap64 (n := b + (n : Int)) (by omega) (by omega), wrapS hlt (by omega), Int.toNat_natCast]
      exact hW
    · rw [decide_eq_false h0, cond_false]
      refine At_of hs ?_
      rw [wrap64 (n := c - sent[n]) (by omega) (by omega)]
      by_cases h4 : 4 ≤ c - sent[n]
      · rw [decide_eq_true h4, cond_true]
        rw [show dueB c sent[n] = true from decide_eq_true (.inr h4), if_pos rfl, if_pos rfl] at hW
        dsimp only [Lf.ty, prodL]
        refine atI_of (List.getElem?_eq_getElem hl) (At_of hd ⟨hR.1, ?_⟩)
        rw [wrap64 (n := b + (n : Int)) (by omega) (by omega), wrapS hlt (by omega), Int.toNat_natCast]
        exact hW
      · rw [decide_eq_false h4, cond_false]
        rw [show dueB c sent[n] = false from decide_eq_false (by omega), if_neg (by decide), if_neg (by decide)] at hW
        rw [wrapS hlt (by omega)]
        exact hW
  · have : n = N := by omega
    subst this
    rw [show decide ((n : Int) < (n : Int)) = false by simp, cond_false]
    exact wkK.same h
def sp15 : Sp := ⟨S15, L15, fun _ => True, fun g => pollT (pollOf ⟨g.1, g.2.1, g.2.2.1, g.2.2.2.1⟩ g.2.2.2.2.1), fun _ => none⟩
theorem sp15_ok : sp15.Ok Try.prog 15 false :=
  ⟨fun g _ X _ h => FCalls.weak (F15_ok _ _ X (F15_is (s := ⟨g.1, g.2.1, g.2.2.1, g.2.2.2.1⟩) h)), fun _ _ _ => rfl, fun _ => rfl, fun h => by cases h⟩
theorem F16_is {s : Snd} {c : Int} {K : Kn} (h : K (pollT (pollOf s c)) []) : F16 (s.base, s.window, s.data, s.sent, c, ()) (wkK K) := by
  obtain ⟨b, w, data, sent⟩ := s
  unfold F16 F16_J2
  unfold pollOf at h
  dsimp only [Lf.ty, prodL] at h ⊢
  refine ⟨trivial, ?_⟩
  by_cases he : Snd.err ⟨b, w, data, sent⟩ = 0
  case neg =>
    rw [if_pos (.inl he)] at h
    rw [decide_eq_false he, Bool.not_false, cond_true, cond_true]; exact wk_poll h
  rw [decide_eq_true he, Bool.not_true, cond_false]
  refine ⟨trivial, ?_⟩
  cases hc : okN c
  · rw [if_pos (.inr hc)] at h
    rw [Bool.not_false, cond_true]; exact wk_poll h
  rw [if_neg (by simp [he, hc])] at h
  rw [Bool.not_true, cond_false]
  have ok := Snd.err_iff.1 he
  obtain ⟨w1, w2, b1, bl, dl, sl, -⟩ := id ok
  dsimp only at w1 w2 b1 bl dl sl
  have hc := of_decide_eq_true hc
  refine ⟨by omega, ?_⟩
  have hN : (if (data.length : Int) < w then (data.length : Int) else w) = ((pollN ⟨b, w, data, sent⟩ : Nat) : Int) := by
    unfold pollN; dsimp only; split <;> omega
  have hle : pollN ⟨b, w, data, sent⟩ ≤ data.length := Nat.min_le_right _ _
  unfold F16_L14
  generalize hNN : pollN ⟨b, w, data, sent⟩ = N at *
  refine LoopW.countTo N (fun n => (c, (n : Int), b, w, data, 0, 0, framesTo ⟨b, w, data, sent⟩ c n, sentTo sent c n, ())) (fun _ => True) (by rw [sentTo_zero]; rfl) (fun n hn _ W hW => ?_) trivial
  dsimp only
  unfold F16_B14 F16_J20 F16_J22 F16_J24
  by_cases hlt : n < N
  · have hd : n < data.length := by omega
    have hs : n < sent.length := by omega
    have hl : n < (sentTo sent c n).length := by rw [sentTo_len]; exact hs
    rw [show decide ((n : Int) < (data.length : Int)) = true by simp; omega, cond_true, show decide ((n : Int) < w) = true by simp; split at hN <;> omega, cond_true]
    obtain ⟨s1, s2⟩ := sent_in ok hs
    dsimp only at s1 s2
    have hW := hW hlt trivial
    rw [sentTo_succ hs, framesTo_succ hd hs] at hW
    dsimp only at hW
    have hR : Room ((framesTo ⟨b, w, data, sent⟩ c n).length + 1) 32 True := ⟨by have := framesTo_len (s := ⟨b, w, data, sent⟩) (c := c) (n := n); omega, trivial⟩
    have hg : (sentTo sent c n)[n]? = some sent[n] := by rw [List.getElem?_eq_getElem hl, sentTo_get hs, if_neg (by omega)]
    refine atI_of hg ?_
    by_cases h0 : sent[n] = -1
    · rw [decide_eq_true h0, cond_true, cond_true]
      rw [show dueB c sent[n] = true from decide_eq_true (.inl (by omega)), if_pos rfl, if_pos rfl] at hW
      refine atI_of hg (At_of hd ⟨hR.1, ?_⟩)
      rw [wrap64 (n := b + (n : Int)) (by omega) (by omega), wrapS hlt (by omega), Int.toNat_natCast]
      exact hW
    · rw [decide_eq_false h0, cond_false]
      refine atI_of hg ?_
      rw [wrap64 (n := c - sent[n]) (by omega) (by omega)]
      by_cases h4 : 4 ≤ c - sent[n]
      · rw [decide_eq_true h4, cond_true]
        rw [show dueB c sent[n] = true from decide_eq_true (.inr h4), if_pos rfl, if_pos rfl] at hW
        refine atI_of hg (At_of hd ⟨hR.1, ?_⟩)
        rw [wrap64 (n := b + (n : Int)) (by omega) (by omega), wrapS hlt (by omega), Int.toNat_natCast]
        exact hW
      · rw [decide_eq_false h4, cond_false]
        rw [show dueB c sent[n] = false from decide_eq_false (by omega), if_neg (by decide), if_neg (by decide)] at hW
        rw [wrapS hlt (by omega)]
        exact hW
  · have : n = N := by omega
    subst this
    have hend : wkK K (.tu [.ag [.int .i64 b, .int .i64 w, .sl false .str data, .sl false .i64 (sentTo sent c n)], .sl false .frm (framesTo ⟨b, w, data, sent⟩ c n)]) [] := wkK.same h
    by_cases h1 : n < data.length
    · rw [show decide ((n : Int) < (data.length : Int)) = true by simp; omega, cond_true, show decide ((n : Int) < w) = false by simp; split at hN <;> omega, cond_false]
      exact hend
    · rw [show decide ((n : Int) < (data.length : Int)) = false by simp; omega, cond_false]
      exact hend
def sp16 : Sp := ⟨S16, L16, fun _ => True, fun g => pollT (pollOf ⟨g.1, g.2.1, g.2.2.1, g.2.2.2.1⟩ g.2.2.2.2.1), fun _ => none⟩
theorem sp16_ok : sp16.Ok Try.prog 16 false :=
  ⟨fun g _ X _ h => FCalls.weak (F16_ok _ _ X (F16_is (s := ⟨g.1, g.2.1, g.2.2.1, g.2.2.2.1⟩) h)), fun _ _ _ => rfl, fun _ => rfl, fun h => by cases h⟩
/-! ### Acknowledge -/
theorem F22_is {s : Snd} {f : Frm} {K : Kn} (h : K (sndT2 (ackOf s f)) []) : F22 (s.base, s.window, s.data, s.sent, f.ack, f.number, f.data, ()) (wkK K) := by
  obtain ⟨b, w, data, sent⟩ := s
  obtain ⟨a, m, d⟩ := f
  unfold F22 F22_J2
  unfold ackOf at h
  dsimp only [Lf.ty, prodL] at h ⊢
  refine ⟨trivial, ?_⟩
  by_cases he : Snd.err ⟨b, w, data, sent⟩ = 0
  case neg =>
    rw [if_pos he] at h
    rw [decide_eq_false he, Bool.not_false, cond_true]; exact wk_snd h
  rw [if_neg (by simp [he])] at h
  rw [decide_eq_true he, Bool.not_true, cond_false]
  cases a
  · rw [if_pos rfl] at h
    rw [Bool.not_false, cond_true]; exact wk_snd h
  rw [if_neg (by decide)] at h
  rw [Bool.not_true, cond_false]
  refine ⟨trivial, ?_⟩
  by_cases hf : frmErr ⟨true, m, d⟩ = 0
  case neg =>
    rw [if_pos hf] at h
    rw [decide_eq_false hf, Bool.not_false, cond_true]; exact wk_snd h
  rw [if_neg (by simp [hf])] at h
  rw [decide_eq_true hf, Bool.not_true, cond_false]
  obtain ⟨w1, w2, b1, bl, dl, sl, -⟩ := Snd.err_iff.1 he
  dsimp only at w1 w2 b1 bl dl sl
  have hm : 0 ≤ m ∧ m ≤ 1099511627776 := by
    unfold frmErr at hf
    cases hk : okN m
    · simp [hk] at hf
    · exact of_decide_eq_true hk
  rw [wrap64 (by omega) (by omega)]
  by_cases h1 : m - b ≤ 0
  · rw [if_pos h1] at h
    rw [decide_eq_true h1, cond_true]; exact wkK.same h
  rw [if_neg h1] at h
  rw [decide_eq_false h1, cond_false]
  by_cases h2 : (data.length : Int) < m - b
  · rw [if_pos (.inl h2)] at h
    rw [decide_eq_true h2, cond_true, cond_true]; exact wk_snd h
  rw [decide_eq_false h2, cond_false]
  refine ⟨by decide, by omega, by omega, by show (List.drop _ (List.take _ _)).length ≤ 4294967296; rw [List.length_drop, List.length_take]; omega, ?_⟩
  rw [Int.toNat_zero, List.drop_zero]
  by_cases h3 : -1 ∈ sent.take (m - b).toNat
  · rw [if_pos (.inr h3)] at h
    rw [decide_eq_true h3, cond_true]; exact wk_snd h
  rw [if_neg (by simp only [h2, h3, or_self, not_false_eq_true])] at h
  rw [decide_eq_false h3, cond_false]
  exact ⟨by omega, by omega, by show (data.drop _).length ≤ 4294967296; rw [List.length_drop]; omega, by omega, by omega, by show (sent.drop _).length ≤ 4294967296; rw [List.length_drop]; omega, wkK.same h⟩
def sp22 : Sp := ⟨S22, L22, fun _ => True, fun g => sndT2 (ackOf ⟨g.1, g.2.1, g.2.2.1, g.2.2.2.1⟩ ⟨g.2.2.2.2.1, g.2.2.2.2.2.1, g.2.2.2.2.2.2.1⟩), fun _ => none⟩
theorem sp22_ok : sp22.Ok Try.prog 22 false :=
  ⟨fun g _ X _ h => FCalls.weak (F22_ok _ _ X (F22_is (s := ⟨g.1, g.2.1, g.2.2.1, g.2.2.2.1⟩) (f := ⟨g.2.2.2.2.1, g.2.2.2.2.2.1, g.2.2.2.2.2.2.1⟩) h)), fun _ _ _ => rfl, fun _ => rfl, fun h => by cases h⟩
theorem F23_is {s : Snd} {f : Frm} {K : Kn} (h : K (sndT2 (ackOf s f)) []) : F23 (s.base, s.window, s.data, s.sent, f.ack, f.number, f.data, ()) (wkK K) := by
  obtain ⟨b, w, data, sent⟩ := s
  obtain ⟨a, m, d⟩ := f
  unfold F23
  unfold ackOf at h
  dsimp only [Lf.ty, prodL] at h ⊢
  refine ⟨trivial, ?_⟩
  by_cases he : Snd.err ⟨b, w, data, sent⟩ = 0
  case neg =>
    rw [if_pos he] at h
    rw [decide_eq_false he, Bool.not_false, cond_true]; exact wk_snd h
  rw [if_neg (by simp [he])] at h
  rw [decide_eq_true he, Bool.not_true, cond_false]
  cases a
  · rw [if_pos rfl] at h
    rw [Bool.not_false, cond_true]; exact wk_snd h
  rw [if_neg (by decide)] at h
  rw [Bool.not_true, cond_false]
  refine ⟨trivial, ?_⟩
  by_cases hf : frmErr ⟨true, m, d⟩ = 0
  case neg =>
    rw [if_pos hf] at h
    rw [decide_eq_false hf, Bool.not_false, cond_true]; exact wk_snd h
  rw [if_neg (by simp [hf])] at h
  rw [decide_eq_true hf, Bool.not_true, cond_false]
  obtain ⟨w1, w2, b1, bl, dl, sl, -⟩ := Snd.err_iff.1 he
  dsimp only at w1 w2 b1 bl dl sl
  have hm : 0 ≤ m ∧ m ≤ 1099511627776 := by
    unfold frmErr at hf
    cases hk : okN m
    · simp [hk] at hf
    · exact of_decide_eq_true hk
  rw [wrap64 (by omega) (by omega)]
  by_cases h1 : m - b ≤ 0
  · rw [if_pos h1] at h
    rw [decide_eq_true h1, cond_true]; exact wkK.same h
  rw [if_neg h1] at h
  rw [decide_eq_false h1, cond_false]
  by_cases h2 : (data.length : Int) < m - b
  · rw [if_pos (.inl h2)] at h
    rw [decide_eq_true h2, cond_true]; exact wk_snd h
  rw [decide_eq_false h2, cond_false]
  obtain ⟨N, hN⟩ := Int.eq_ofNat_of_zero_le (a := m - b) (by omega)
  rw [hN, Int.toNat_natCast] at h
  rw [hN]
  unfold F23_L2
  refine LoopW.countTo N (fun n => ((N : Int), (n : Int), b, w, data, sent, true, m, d, 0, 0, ())) (fun n => -1 ∉ sent.take n) rfl (fun n hn hp W hW => ?_) (by simp)
  dsimp only
  unfold F23_B2
  by_cases hlt : n < N
  · rw [show decide ((n : Int) < (N : Int)) = true by simp; omega, cond_true]
    have hs : n < sent.length := by omega
    refine At_of hs ?_
    by_cases h3 : sent[n] = -1
    · rw [decide_eq_true h3, cond_true]
      rw [if_pos (.inr (by rw [← h3]; exact List.mem_take_iff_getElem.2 ⟨n, by omega, rfl⟩))] at h
      exact wk_snd h
    · rw [decide_eq_false h3, cond_false, wrapS hlt (by omega)]
      refine hW hlt ?_
      rw [take_snoc hs]
      intro hmem
      rcases List.mem_append.1 hmem with h4 | h4
      · exact hp h4
      · simp at h4; exact h3 h4.symm
  · have : n = N := by omega
    subst this
    rw [show decide ((n : Int) < (n : Int)) = false by simp, cond_false]
    rw [if_neg (by rintro (h4 | h4); exact h2 (by omega); exact hp h4)] at h
    rw [Int.toNat_natCast]
    exact ⟨by omega, by omega, by rw [List.length_drop]; omega, by omega, by omega, by rw [List.length_drop]; omega, wkK.same h⟩
def sp23 : Sp := ⟨S23, L23, fun _ => True, fun g => sndT2 (ackOf ⟨g.1, g.2.1, g.2.2.1, g.2.2.2.1⟩ ⟨g.2.2.2.2.1, g.2.2.2.2.2.1, g.2.2.2.2.2.2.1⟩), fun _ => none⟩
theorem sp23_ok : sp23.Ok Try.prog 23 false :=
  ⟨fun g _ X _ h => FCalls.weak (F23_ok _ _ X (F23_is (s := ⟨g.1, g.2.1, g.2.2.1, g.2.2.2.1⟩) (f := ⟨g.2.2.2.2.1, g.2.2.2.2.2.1, g.2.2.2.2.2.2.1⟩) h)), fun _ _ _ => rfl, fun _ => rfl, fun h => by cases h⟩
end Go.Proofs.Ytofjpelbjehddaa
