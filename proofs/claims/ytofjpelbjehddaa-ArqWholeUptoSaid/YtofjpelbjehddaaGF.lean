/-
  Arq: the law ArqWhole: a sender and a receiver together.
-/
import Derived.Test.YtofjpelbjehddaaGE
import Derived.Test.YtofjpelbjehddaaFJ3
namespace Go.Proofs.Ytofjpelbjehddaa
set_option linter.unusedVariables false
set_option linter.unusedSimpArgs false
open Go.RowKit

structure WInv (m : Nat) (s : Snd) (r : Rcv) (b p : Nat) (O : List ByteArray) (F A : List Frm) (c : Int) : Prop where
  sok : SOk s
  c0 : 0 ≤ c
  c1 : c ≤ 7 * (m : Int)
  ol : O.length ≤ m
  osz : ∀ d ∈ O, d.size ≤ 20
  base : s.base = (b : Int)
  bp : b ≤ p
  dat : s.data = O.drop b
  rinv : RInv O r p
  fl : F.length ≤ 64 * m
  al : A.length ≤ m
  fr : ∀ f ∈ F, ∃ (k : Nat) (u : ByteArray), f = ⟨false, (k : Int), u⟩ ∧ O[k]? = some u ∧ k < p + 64 ∧ (b ≤ k → ∃ t, s.sent[k - b]? = some t ∧ 0 ≤ t)
  kn : ∀ j, Known r p j → b ≤ j → ∃ t, s.sent[j - b]? = some t ∧ 0 ≤ t
  ak : ∀ a ∈ A, ∃ q : Nat, a = ⟨true, (q : Int), ⟨#[]⟩⟩ ∧ q ≤ p
variable {m : Nat} {s : Snd} {r : Rcv} {b p : Nat} {O : List ByteArray} {F A : List Frm} {c : Int}
theorem WInv.pl (h : WInv m s r b p O F A c) : p ≤ O.length := by have := h.rinv.len; omega
theorem WInv.later (h : WInv m s r b p O F A c) : WInv (m + 1) s r b p O F A c :=
  ⟨h.sok, h.c0, by have := h.c1; omega, by have := h.ol; omega, h.osz, h.base, h.bp, h.dat, h.rinv, by have := h.fl; omega, by have := h.al; omega, h.fr, h.kn, h.ak⟩
theorem SOk.of {s : Snd} {b w : Int} {data : List ByteArray} {sent : List Int} (h : SOk s) (hb : 0 ≤ b) (hbl : b + (data.length : Int) ≤ 1099511627776) (hdl : data.length ≤ 1000) (hsl : sent.length = data.length) (hw : w = s.window)
    (hel : ∀ (k : Nat) (d : ByteArray) (t : Int), data[k]? = some d → sent[k]? = some t → d.size ≤ 65472 ∧ -1 ≤ t ∧ t ≤ 1099511627776 ∧ (w ≤ (k : Int) → t = -1)) : SOk ⟨b, w, data, sent⟩ :=
  ⟨by dsimp only; rw [hw]; exact h.w1, by dsimp only; rw [hw]; exact h.w2, hb, hbl, hdl, hsl, fun k h1 h2 => elem_iff.2 (hel k _ _ (List.getElem?_eq_getElem h1) (List.getElem?_eq_getElem h2))⟩
theorem SOk.at (h : SOk s) {k : Nat} {d : ByteArray} {t : Int} (hd : s.data[k]? = some d) (ht : s.sent[k]? = some t) : d.size ≤ 65472 ∧ -1 ≤ t ∧ t ≤ 1099511627776 ∧ (s.window ≤ (k : Int) → t = -1) := by
  obtain ⟨h1, rfl⟩ := List.getElem?_eq_some_iff.1 hd
  obtain ⟨h2, rfl⟩ := List.getElem?_eq_some_iff.1 ht
  exact elem_iff.1 (h.el k h1 h2)
theorem RInv.more {d : ByteArray} (h : RInv O r p) : RInv (O ++ [d]) r p :=
  ⟨h.next, h.ok, by have := h.len; simp; omega, fun i hi => by
    have h1 := (List.getElem?_eq_some_iff.1 hi).1
    have h2 := h.len
    rw [List.getElem?_append_left (by omega)]
    exact h.val i hi⟩
/-- A string is offered. -/
theorem WInv.offer (h : WInv m s r b p O F A c) (hm : m ≤ 40) {d : ByteArray} (hd : d.size ≤ 20) : ∃ s', offerOf s d = (s', 0) ∧ WInv (m + 1) s' r b p (O ++ [d]) F A c := by
  obtain ⟨sok, c0, c1, ol, osz, base, bp, dat, rinv, fl, al, fr, kn, ak⟩ := id h
  have hpl := h.pl
  have hdl : s.data.length = O.length - b := by rw [dat, List.length_drop]
  have hsl := sok.sl
  refine ⟨⟨s.base, s.window, s.data ++ [d], s.sent ++ [-1]⟩, ?_, ⟨sok.of sok.b1 ?_ ?_ ?_ rfl fun k d' t hk ht => ?_, c0, by omega, by simp; omega, fun x hx => ?_, base, bp, ?_, rinv.more, by omega, by omega, fun f hf => ?_, fun j hj hb => ?_, ak⟩⟩
  · unfold offerOf
    rw [if_neg (by simp [Snd.err_iff.2 sok]), if_neg (by omega), if_neg (by omega), if_neg (by omega)]
  · simp only [List.length_append, List.length_singleton]; omega
  · simp only [List.length_append, List.length_singleton]; omega
  · simp only [List.length_append, List.length_singleton]; omega
  · by_cases hk2 : k < s.data.length
    · rw [List.getElem?_append_left hk2] at hk
      rw [List.getElem?_append_left (by omega)] at ht
      exact sok.at hk ht
    · have : k = s.data.length := by have := (List.getElem?_eq_some_iff.1 hk).1; simp at this; omega
      subst this
      rw [List.getElem?_append_right (Nat.le_refl _), Nat.sub_self] at hk
      rw [← hsl, List.getElem?_append_right (Nat.le_refl _), Nat.sub_self] at ht
      simp at hk ht
      subst hk; subst ht
      exact ⟨by omega, by decide, by decide, fun _ => rfl⟩
  · rcases List.mem_append.1 hx with h1 | h1
    · exact osz x h1
    · simp at h1; subst h1; exact hd
  · dsimp only
    rw [dat, List.drop_append_of_le_length (by omega)]
  · obtain ⟨k, u, k1, k2, k3, k4⟩ := fr f hf
    refine ⟨k, u, k1, by rw [List.getElem?_append_left (List.getElem?_eq_some_iff.1 k2).1]; exact k2, k3, fun hb => ?_⟩
    obtain ⟨t, t1, t2⟩ := k4 hb
    exact ⟨t, by dsimp only; rw [List.getElem?_append_left (List.getElem?_eq_some_iff.1 t1).1]; exact t1, t2⟩
  · obtain ⟨t, t1, t2⟩ := kn j hj hb
    exact ⟨t, by dsimp only; rw [List.getElem?_append_left (List.getElem?_eq_some_iff.1 t1).1]; exact t1, t2⟩
theorem sentTo_get? {sent : List Int} {k i : Nat} : (sentTo sent c k)[i]? = (sent[i]?).map fun t => if i < k ∧ dueB c t = true then c else t := by
  unfold sentTo
  rw [List.getElem?_mapIdx]
/-- The sender is polled. -/
theorem WInv.poll (h : WInv m s r b p O F A c) (hm : m ≤ 40) {c' : Int} (h0 : c ≤ c') (h1 : c' ≤ c + 7) : ∃ s' l, pollOf s c' = (s', l) ∧ l.length ≤ 64 ∧ WInv (m + 1) s' r b p O (F ++ l) A c' := by
  obtain ⟨sok, c0, c1, ol, osz, base, bp, dat, rinv, fl, al, fr, kn, ak⟩ := id h
  have hw2 := sok.w2
  have hNw : ((pollN s : Nat) : Int) ≤ s.window := by have := sok.w1; unfold pollN; omega
  have hNl : pollN s ≤ s.data.length := Nat.min_le_right _ _
  have keep : ∀ (i : Nat) (t : Int), s.sent[i]? = some t → 0 ≤ t → ∃ t', (sentTo s.sent c' (pollN s))[i]? = some t' ∧ 0 ≤ t' := fun i t ht h2 => by
    rw [sentTo_get?, ht]
    refine ⟨_, rfl, ?_⟩
    dsimp only
    split <;> omega
  have hll : (framesTo s c' (pollN s)).length ≤ 64 := Nat.le_trans framesTo_len (by omega)
  refine ⟨⟨s.base, s.window, s.data, sentTo s.sent c' (pollN s)⟩, framesTo s c' (pollN s), ?_, hll, ⟨sok.of sok.b1 sok.bl sok.dl (by rw [sentTo_len]; exact sok.sl) rfl fun k d' t hk ht => ?_, by omega, by omega, by omega, osz, base, bp, dat, rinv, by rw [List.length_append]; omega, by omega, fun f hf => ?_, fun j hj hb => ?_, ak⟩⟩
  · unfold pollOf
    rw [if_neg]
    rintro (h2 | h2)
    · exact h2 (Snd.err_iff.2 sok)
    · have : okN c' = true := decide_eq_true ⟨by omega, by omega⟩
      rw [this] at h2; cases h2
  · rw [sentTo_get?] at ht
    cases hs : s.sent[k]? with
    | none => rw [hs] at ht; cases ht
    | some t0 =>
      rw [hs] at ht
      simp only [Option.map_some, Option.some.injEq] at ht
      obtain ⟨a1, a2, a3, a4⟩ := sok.at hk hs
      subst ht
      split
      · rename_i hc
        exact ⟨a1, by omega, by omega, fun hw => by omega⟩
      · exact ⟨a1, a2, a3, a4⟩
  · rcases List.mem_append.1 hf with hf | hf
    · obtain ⟨k, u, k1, k2, k3, k4⟩ := fr f hf
      exact ⟨k, u, k1, k2, k3, fun hb => by obtain ⟨t, t1, t2⟩ := k4 hb; exact keep _ _ t1 t2⟩
    · unfold framesTo at hf
      rw [List.mem_filterMap] at hf
      obtain ⟨i, hi, hf⟩ := hf
      rw [List.mem_range] at hi
      have hid : i < s.data.length := by omega
      have his : i < s.sent.length := by rw [sok.sl]; exact hid
      rw [List.getD_eq_getElem?_getD, List.getD_eq_getElem?_getD, List.getElem?_eq_getElem hid, List.getElem?_eq_getElem his] at hf
      simp only [Option.getD_some] at hf
      split at hf
      case isFalse => cases hf
      rename_i hdue
      simp only [Option.some.injEq] at hf
      refine ⟨b + i, s.data[i], ?_, ?_, by omega, fun _ => ⟨c', ?_, by omega⟩⟩
      · rw [← hf, base]; rfl
      · have : (O.drop b)[i]? = some s.data[i] := by rw [← dat]; exact List.getElem?_eq_getElem hid
        rwa [List.getElem?_drop] at this
      · dsimp only
        rw [sentTo_get?, show b + i - b = i by omega, List.getElem?_eq_getElem his]
        simp only [Option.map_some]
        rw [if_pos ⟨hi, hdue⟩]
  · obtain ⟨t, t1, t2⟩ := kn j hj hb
    exact keep _ _ t1 t2
/-- A frame arrives. -/
theorem WInv.accept (h : WInv m s r b p O F A c) (hm : m ≤ 40) {f : Frm} (hf : f ∈ F) : ∃ (r' : Rcv) (p' : Nat), acceptOf r f = (r', (O.drop p).take (p' - p), ⟨true, (p' : Int), ⟨#[]⟩⟩, 0) ∧ p ≤ p' ∧ WInv (m + 1) s r' b p' O F (A ++ [⟨true, (p' : Int), ⟨#[]⟩⟩]) c := by
  obtain ⟨sok, c0, c1, ol, osz, base, bp, dat, rinv, fl, al, fr, kn, ak⟩ := id h
  obtain ⟨k, u, rfl, k2, k3, k4⟩ := fr f hf
  obtain ⟨p', r', e, hpp, hI', -, -, hback⟩ := accept_inv rinv k2 k3 (by omega) fun d hd => Nat.le_trans (osz d hd) (by decide)
  refine ⟨r', p', e, hpp, ⟨sok, c0, by omega, by omega, osz, base, by omega, dat, hI', by omega, by simp; omega, fun g hg => ?_, fun j hj hb => ?_, fun a ha => ?_⟩⟩
  · obtain ⟨k', u', q1, q2, q3, q4⟩ := fr g hg
    exact ⟨k', u', q1, q2, by omega, q4⟩
  · rcases hback j hj with h1 | h1
    · exact kn j h1 hb
    · subst h1; exact k4 hb
  · rcases List.mem_append.1 ha with ha | ha
    · obtain ⟨q, q1, q2⟩ := ak a ha
      exact ⟨q, q1, by omega⟩
    · simp at ha; exact ⟨p', ha, Nat.le_refl _⟩
/-- An acknowledgement arrives. -/
theorem WInv.ack (h : WInv m s r b p O F A c) (hm : m ≤ 40) {a : Frm} (ha : a ∈ A) : ∃ (s' : Snd) (b' : Nat), ackOf s a = (s', 0) ∧ WInv (m + 1) s' r b' p O F A c := by
  obtain ⟨sok, c0, c1, ol, osz, base, bp, dat, rinv, fl, al, fr, kn, ak⟩ := id h
  have hpl := h.pl
  obtain ⟨q, rfl, hq⟩ := ak a ha
  have hok : okN (q : Int) = true := decide_eq_true ⟨by omega, by omega⟩
  have hf : frmErr ⟨true, (q : Int), ⟨#[]⟩⟩ = 0 := by unfold frmErr; rw [if_neg (by simp [hok]), if_neg (by show ¬ 65472 < 0; decide), if_neg (by simp)]
  unfold ackOf
  rw [if_neg (by simp [Snd.err_iff.2 sok]), if_neg (by simp), if_neg (by simp [hf])]
  dsimp only
  by_cases hle : (q : Int) - s.base ≤ 0
  · rw [if_pos hle]
    exact ⟨s, b, rfl, h.later⟩
  · rw [if_neg hle]
    have hn : ((q : Int) - s.base).toNat = q - b := by omega
    rw [hn]
    have hdl : s.data.length = O.length - b := by rw [dat, List.length_drop]
    rw [if_neg]
    · have hd := sok.drop (k := q - b) (by omega)
      have e : (s.base + ((q - b : Nat) : Int)) = (q : Int) := by omega
      rw [e] at hd
      refine ⟨⟨(q : Int), s.window, s.data.drop (q - b), s.sent.drop (q - b)⟩, q, rfl, ⟨hd, c0, by omega, by omega, osz, rfl, hq, ?_, rinv, by omega, by omega, fun g hg => ?_, fun j hj hb => ?_, ak⟩⟩
      · dsimp only
        rw [dat, List.drop_drop]; congr 1; omega
      · obtain ⟨k', u', q1, q2, q3, q4⟩ := fr g hg
        refine ⟨k', u', q1, q2, q3, fun hb => ?_⟩
        obtain ⟨t, t1, t2⟩ := q4 (by omega)
        exact ⟨t, by dsimp only; rw [List.getElem?_drop, show q - b + (k' - q) = k' - b by omega]; exact t1, t2⟩
      · obtain ⟨t, t1, t2⟩ := kn j hj (by omega)
        exact ⟨t, by dsimp only; rw [List.getElem?_drop, show q - b + (j - q) = j - b by omega]; exact t1, t2⟩
    · rintro (h1 | h1)
      · omega
      · obtain ⟨i, hi, hi2⟩ := List.mem_take_iff_getElem.1 h1
        have hi3 : i < q - b := by omega
        obtain ⟨t, t1, t2⟩ := kn (b + i) (.inl (by omega)) (by omega)
        rw [show b + i - b = i by omega, List.getElem?_eq_getElem (by omega), hi2] at t1
        simp at t1
        omega
end Go.Proofs.Ytofjpelbjehddaa
