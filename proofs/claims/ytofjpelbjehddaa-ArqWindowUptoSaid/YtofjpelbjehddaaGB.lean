/-
  Arq: the laws ArqSender and ArqFrames.
-/
import Derived.Test.YtofjpelbjehddaaFJ1
import Derived.Test.YtofjpelbjehddaaA6
namespace Go.Proofs.Ytofjpelbjehddaa
set_option linter.unusedVariables false
set_option linter.unusedSimpArgs false
set_option linter.unusedSectionVars false
open Go.RowKit

theorem new_len {n : Int} : (newOf n).1.data.length ≤ 0 ∧ (newOf n).1.sent.length ≤ 0 := by
  unfold newOf noSnd
  split <;> exact ⟨Nat.le_refl _, Nat.le_refl _⟩
theorem off_len {s : Snd} {d : ByteArray} : (offerOf s d).1.data.length ≤ s.data.length + 1 ∧ (offerOf s d).1.sent.length ≤ s.sent.length + 1 := by
  unfold offerOf noSnd
  repeat' split
  all_goals first
    | exact ⟨Nat.zero_le _, Nat.zero_le _⟩
    | exact ⟨by simp, by simp⟩
theorem poll_len {s : Snd} {c : Int} : (pollOf s c).1.data.length ≤ s.data.length ∧ (pollOf s c).1.sent.length ≤ s.sent.length ∧ (pollOf s c).2.length ≤ s.data.length := by
  unfold pollOf
  split
  · exact ⟨Nat.le_refl _, Nat.le_refl _, Nat.zero_le _⟩
  · exact ⟨Nat.le_refl _, by rw [sentTo_len]; exact Nat.le_refl _, Nat.le_trans framesTo_len (Nat.min_le_right _ _)⟩
theorem ack_len {s : Snd} {f : Frm} : (ackOf s f).1.data.length ≤ s.data.length ∧ (ackOf s f).1.sent.length ≤ s.sent.length := by
  unfold ackOf noSnd
  repeat' split
  all_goals first
    | exact ⟨Nat.zero_le _, Nat.zero_le _⟩
    | exact ⟨Nat.le_refl _, Nat.le_refl _⟩
    | exact ⟨by simp, by simp⟩
structure AccOk (r : Rcv) (f : Frm) : Prop where
  ok : ROk r
  ack : f.ack = false
  n0 : 0 ≤ f.number
  n1 : f.number < 1099511627776
  sz : f.data.size ≤ 65472
  win : f.number < r.next + 64
theorem accErr_iff {r : Rcv} {f : Frm} : accErr r f = 0 ↔ AccOk r f := by
  unfold accErr
  constructor
  · intro h
    by_cases c1 : r.ok = false
    · rw [if_pos c1] at h; cases h
    rw [if_neg c1] at h
    by_cases c2 : f.ack = true
    · rw [if_pos c2] at h; cases h
    rw [if_neg c2] at h
    by_cases c3 : f.number < 0 ∨ 1099511627776 ≤ f.number
    · rw [if_pos c3] at h; cases h
    rw [if_neg c3] at h
    by_cases c4 : 65472 < f.data.size
    · rw [if_pos c4] at h; cases h
    rw [if_neg c4] at h
    by_cases c5 : r.next + 64 ≤ f.number
    · rw [if_pos c5] at h; cases h
    exact ⟨of_decide_eq_true (by cases hh : r.ok <;> simp_all [Rcv.ok]), by cases hh : f.ack <;> simp_all, by omega, by omega, by omega, by omega⟩
  · rintro ⟨a, b, c, d, e, f⟩
    rw [if_neg (by unfold Rcv.ok; rw [decide_eq_true a]; simp), if_neg (by rw [b]; simp), if_neg (by omega), if_neg (by omega), if_neg (by omega)]
theorem acc_len {r : Rcv} {f : Frm} : (acceptOf r f).1.have_.length ≤ r.have_.length + 64 ∧ (acceptOf r f).1.data.length ≤ r.data.length + 64 ∧ (acceptOf r f).2.1.length ≤ r.data.length + 64 := by
  unfold acceptOf
  by_cases he : accErr r f = 0
  case neg => rw [if_pos he]; exact ⟨Nat.zero_le _, Nat.zero_le _, Nat.zero_le _⟩
  rw [if_neg (by simp [he])]
  obtain ⟨a, b, c, d, e, g⟩ := accErr_iff.1 he
  split
  · exact ⟨Nat.le_add_right _ _, Nat.le_add_right _ _, Nat.zero_le _⟩
  · dsimp only
    refine ⟨?_, ?_, ?_⟩
    · rw [List.length_drop, putL_len]; omega
    · rw [List.length_drop, putL_len]; omega
    · rw [List.length_take, putL_len]; omega
theorem F3_is {s : Snd} {d : ByteArray} {n : Int} {K : Kn} (h1 : s.data.length ≤ 2000000) (h2 : s.sent.length ≤ 2000000) (h3 : bytesOf s.data ≤ 2000000) (h : K (.bool true) []) : F3 (s.base, s.window, s.data, s.sent, d, n, ()) K := by
  have fin : ∀ t, F3_J2 K d n t s.base s.window s.data s.sent := fun t => by
    unfold F3_J2
    cases t
    · rw [cond_false]
      simp only [decide_true, cond_true]
      obtain ⟨a1, a2⟩ := new_len (n := n)
      obtain ⟨b1, b2⟩ := off_len (s := s) (d := d)
      obtain ⟨c1, c2, c3⟩ := poll_len (s := s) (c := n)
      exact ⟨trivial, trivial, trivial, trivial, trivial, trivial, ⟨(by omega : (newOf n).1.data.length ≤ 4294967296), (by omega : (newOf n).1.sent.length ≤ 4294967296)⟩, ⟨(by omega : (offerOf s d).1.data.length ≤ 4294967296), (by omega : (offerOf s d).1.sent.length ≤ 4294967296)⟩, ⟨(by omega : (pollOf s n).1.data.length ≤ 4294967296), (by omega : (pollOf s n).1.sent.length ≤ 4294967296)⟩, (by omega : (pollOf s n).2.length ≤ 4294967296), trivial, trivial, trivial, h⟩
    · rw [cond_true]; exact ⟨trivial, h⟩
  unfold F3
  dsimp only [Lf.ty, prodL]
  refine ⟨⟨(by omega : s.data.length ≤ 4294967296), (by omega : bytesOf s.data ≤ 4294967296)⟩, ?_⟩
  cases greatS s.data s.sent.length
  · rw [cond_false]; exact fin _
  · rw [cond_true]; exact fin _
theorem F4_is {s : Snd} {r : Rcv} {f : Frm} {K : Kn} (h1 : s.data.length ≤ 2000000) (h2 : s.sent.length ≤ 2000000) (h3 : bytesOf s.data ≤ 2000000) (h4 : r.have_.length ≤ 2000000) (h5 : r.data.length ≤ 2000000) (h6 : bytesOf r.data ≤ 2000000) (h : K (.bool true) []) :
    F4 (s.base, s.window, s.data, s.sent, r.next, r.have_, r.data, f.ack, f.number, f.data, ()) K := by
  have fin : ∀ t, F4_J2 K t s.base s.window s.data s.sent r.next r.have_ r.data f.ack f.number f.data := fun t => by
    unfold F4_J2
    cases t
    · rw [cond_false]
      simp only [decide_true, cond_true, Bool.and_true]
      obtain ⟨a1, a2⟩ := ack_len (s := s) (f := f)
      obtain ⟨b1, b2, b3⟩ := acc_len (r := r) (f := f)
      exact ⟨trivial, trivial, trivial, trivial, ⟨(by omega : (ackOf s f).1.data.length ≤ 4294967296), (by omega : (ackOf s f).1.sent.length ≤ 4294967296)⟩, ⟨(by omega : (acceptOf r f).1.have_.length ≤ 4294967296), (by omega : (acceptOf r f).1.data.length ≤ 4294967296)⟩, (by omega : (acceptOf r f).2.1.length ≤ 4294967296), trivial, h⟩
    · rw [cond_true]; exact ⟨trivial, h⟩
  unfold F4
  dsimp only [Lf.ty, prodL]
  refine ⟨⟨(by omega : s.data.length ≤ 4294967296), (by omega : bytesOf s.data ≤ 4294967296)⟩, ?_⟩
  cases greatS s.data s.sent.length
  · rw [cond_false]
    refine ⟨⟨(by omega : r.data.length ≤ 4294967296), (by omega : bytesOf r.data ≤ 4294967296)⟩, ?_⟩
    cases greatR r.have_.length r.data
    · rw [cond_false]; exact fin _
    · rw [cond_true]; exact fin _
  · rw [cond_true]; exact fin _
theorem blen {e : El} (h1 : ∀ x, 1 ≤ bk e x) (l : List (ty e)) : l.length ≤ (l.map (bk e)).sum := by
  induction l with
  | nil => simp
  | cons x l ih => have := h1 x; simp; omega
theorem bbytes (l : List ByteArray) : bytesOf l + l.length = (l.map (bk .str)).sum := by
  unfold bytesOf
  induction l with
  | nil => rfl
  | cons x l ih => simp [bk, bk_i64, bk_boo, bk_str, bk_u8]; omega
theorem arqSender.calls (g : prodL L3) (hw : wfL L3 g) (hb : bkL L3 g ≤ 1048576) : FCalls Try.prog 3 (argsT S3 L3 g) [] (fun r _ => r = .bool true) fun _ _ => False := by
  obtain ⟨b, w, data, sent, d, n, u⟩ := g
  have h1 := bbytes data
  have h2 := blen (e := .i64) (fun x => by simp [bk, bk_i64, bk_boo, bk_str, bk_u8]) sent
  simp only [bkL] at hb
  exact F3_ok _ _ _ (F3_is (s := ⟨b, w, data, sent⟩) (by dsimp only; omega) (by dsimp only; omega) (by dsimp only; omega) rfl)
theorem arqFrames.calls (g : prodL L4) (hw : wfL L4 g) (hb : bkL L4 g ≤ 1048576) : FCalls Try.prog 4 (argsT S4 L4 g) [] (fun r _ => r = .bool true) fun _ _ => False := by
  obtain ⟨b, w, data, sent, nx, hv, dt, a, m, x, u⟩ := g
  have h1 := bbytes data
  have h2 := blen (e := .i64) (fun x => by simp [bk, bk_i64, bk_boo, bk_str, bk_u8]) sent
  have h3 := blen (e := .boo) (fun x => by simp [bk, bk_i64, bk_boo, bk_str, bk_u8]) hv
  have h4 := bbytes dt
  simp only [bkL] at hb
  exact F4_ok _ _ _ (F4_is (s := ⟨b, w, data, sent⟩) (r := ⟨nx, hv, dt⟩) (f := ⟨a, m, x⟩) (by dsimp only; omega) (by dsimp only; omega) (by dsimp only; omega) (by dsimp only; omega) (by dsimp only; omega) (by dsimp only; omega) rfl)
end Go.Proofs.Ytofjpelbjehddaa
