/-
  Arq: the law ArqAcknowledged.
-/
import Derived.Test.YtofjpelbjehddaaGB
namespace Go.Proofs.Ytofjpelbjehddaa
set_option linter.unusedVariables false
set_option linter.unusedSimpArgs false
open Go.RowKit

theorem SOk.drop {s : Snd} (h : SOk s) {k : Nat} (hk : k ≤ s.data.length) : SOk ⟨s.base + (k : Int), s.window, s.data.drop k, s.sent.drop k⟩ := by
  obtain ⟨w1, w2, b1, bl, dl, sl, el⟩ := h
  refine ⟨w1, w2, by dsimp only; omega, by dsimp only; rw [List.length_drop]; omega, by dsimp only; rw [List.length_drop]; omega, by dsimp only; rw [List.length_drop, List.length_drop, sl], fun i h1 h2 => ?_⟩
  dsimp only at h1 h2 ⊢
  rw [List.length_drop] at h1 h2
  rw [List.getElem_drop, List.getElem_drop]
  obtain ⟨e1, e2, e3, e4⟩ := elem_iff.1 (el (k + i) (by omega) (by omega))
  exact elem_iff.2 ⟨e1, e2, e3, fun hw => e4 (by omega)⟩
theorem frm_ok {f : Frm} (h : frmErr f = 0) : 0 ≤ f.number ∧ f.number ≤ 1099511627776 := by
  unfold frmErr at h
  cases hk : okN f.number
  · simp [hk] at h
  · exact of_decide_eq_true hk
theorem ack_zero {s : Snd} {f : Frm} (hs : SOk s) (h : (ackOf s f).2 = 0) : f.ack = true ∧ frmErr f = 0 ∧ ∃ k : Nat, k ≤ s.data.length ∧ (k : Int) = (if f.number - s.base > 0 then f.number - s.base else 0) ∧ (ackOf s f).1 = ⟨s.base + (k : Int), s.window, s.data.drop k, s.sent.drop k⟩ ∧ -1 ∉ s.sent.take k := by
  have he := Snd.err_iff.2 hs
  have h0 : ackOf s f = ackOf s f := rfl
  conv at h0 => rhs; unfold ackOf
  rw [if_neg (by simp [he])] at h0
  by_cases h1 : f.ack = false
  · rw [if_pos h1] at h0; rw [h0] at h; cases h
  rw [if_neg h1] at h0
  by_cases h2 : frmErr f ≠ 0
  · rw [if_pos h2] at h0; rw [h0] at h; cases h
  rw [if_neg h2] at h0
  have h2 := Decidable.not_not.1 h2
  refine ⟨by simpa using h1, h2, ?_⟩
  by_cases h3 : f.number - s.base ≤ 0
  · rw [if_pos h3] at h0
    refine ⟨0, Nat.zero_le _, by rw [if_neg (by omega)]; rfl, ?_, by simp⟩
    rw [h0]
    simp
  rw [if_neg h3] at h0
  by_cases h4 : (s.data.length : Int) < f.number - s.base ∨ -1 ∈ s.sent.take (f.number - s.base).toNat
  · rw [if_pos h4] at h0; rw [h0] at h; cases h
  rw [if_neg h4] at h0
  refine ⟨(f.number - s.base).toNat, by omega, by rw [if_pos (by omega)]; omega, ?_, fun hm => h4 (.inr hm)⟩
  rw [h0]
  dsimp only
  rw [show s.base + (((f.number - s.base).toNat : Nat) : Int) = f.number by omega]
theorem ack_codes {s : Snd} {f : Frm} (hs : SOk s) (ha : f.ack = true) : (ackOf s f).2 = 0 ∨ (ackOf s f).2 = 1 ∨ (ackOf s f).2 = 2 := by
  unfold ackOf
  rw [if_neg (by simp [Snd.err_iff.2 hs]), if_neg (by simp [ha])]
  repeat' split
  all_goals simp
theorem F7_is {s : Snd} {n : Int} {K : Kn} (h1 : s.data.length ≤ 2000000) (h2 : s.sent.length ≤ 2000000) (h3 : bytesOf s.data ≤ 2000000) (h : K (.bool true) []) : F7 (s.base, s.window, s.data, s.sent, n, ()) K := by
  have yes : F7_J2 K n true s.base s.window s.data s.sent := by
    unfold F7_J2
    rw [cond_true]; exact ⟨trivial, h⟩
  unfold F7
  dsimp only [Lf.ty, prodL]
  refine ⟨⟨(by omega : s.data.length ≤ 4294967296), (by omega : bytesOf s.data ≤ 4294967296)⟩, ?_⟩
  cases greatS s.data s.sent.length
  case true => rw [cond_true]; exact yes
  rw [cond_false]
  refine ⟨trivial, ?_⟩
  by_cases he : Snd.err ⟨s.base, s.window, s.data, s.sent⟩ = 0
  case neg => rw [decide_eq_false he, Bool.not_false]; exact yes
  rw [decide_eq_true he, Bool.not_true]
  clear yes
  have hs : SOk s := Snd.err_iff.1 he
  unfold F7_J2
  rw [cond_false]
  refine ⟨trivial, ?_⟩
  have hss : (⟨s.base, s.window, s.data, s.sent⟩ : Snd) = s := rfl
  rw [hss]
  by_cases hr : (ackOf s ⟨true, n, ⟨#[]⟩⟩).2 = 0
  case neg =>
    rw [decide_eq_false hr, Bool.not_false, cond_true]
    rcases ack_codes (f := ⟨true, n, ⟨#[]⟩⟩) hs rfl with h4 | h4 | h4
    · exact absurd h4 hr
    · rw [decide_eq_true h4, cond_true]; exact ⟨trivial, h⟩
    · rw [h4, show decide ((2 : Int) = 1) = false from rfl, cond_false, show decide ((2 : Int) = 2) = true from rfl, cond_true]; exact ⟨trivial, h⟩
  rw [decide_eq_true hr, Bool.not_true, cond_false]
  obtain ⟨-, hf, k, hk, hkn, hx, hm⟩ := ack_zero hs hr
  obtain ⟨f1, f2⟩ := frm_ok hf
  dsimp only at hkn f1 f2
  obtain ⟨w1, w2, b1, bl, dl, sl, el⟩ := id hs
  rw [wrap64 (n := n - s.base) (by omega) (by omega), ← hkn, wrap64 (n := s.base + (k : Int)) (by omega) (by omega)]
  have hs' := hs.drop hk
  rw [← hx] at hs'
  rw [show decide ((s.data.length : Int) < (k : Int)) = false from decide_eq_false (by omega), cond_false]
  refine ⟨trivial, ?_⟩
  rw [decide_eq_true (Snd.err_iff.2 hs'), Bool.not_true, cond_false]
  have hx1 : (ackOf s ⟨true, n, ⟨#[]⟩⟩).1.base = s.base + (k : Int) := by rw [hx]
  have hx2 : (ackOf s ⟨true, n, ⟨#[]⟩⟩).1.window = s.window := by rw [hx]
  have hx3 : (ackOf s ⟨true, n, ⟨#[]⟩⟩).1.data = s.data.drop k := by rw [hx]
  have hx4 : (ackOf s ⟨true, n, ⟨#[]⟩⟩).1.sent = s.sent.drop k := by rw [hx]
  rw [decide_eq_true hx1, Bool.not_true, cond_false, decide_eq_true hx2, Bool.not_true]
  unfold F7_J4
  rw [cond_false, Int.toNat_natCast, Int.toNat_zero, List.drop_zero]
  refine ⟨by decide, by omega, by omega, ?_⟩
  have ha2 : ackOf (ackOf s ⟨true, n, ⟨#[]⟩⟩).1 ⟨true, n, ⟨#[]⟩⟩ = ((ackOf s ⟨true, n, ⟨#[]⟩⟩).1, 0) := by
    generalize hy : (ackOf s ⟨true, n, ⟨#[]⟩⟩).1 = y at *
    unfold ackOf
    rw [if_neg (by simp [Snd.err_iff.2 hs']), if_neg (by simp), if_neg (by simp [hf]), if_pos (by rw [hx1]; dsimp only; split at hkn <;> omega)]
  generalize (ackOf s ⟨true, n, ⟨#[]⟩⟩).1 = y at *
  have hyy : (⟨y.base, y.window, y.data, y.sent⟩ : Snd) = y := rfl
  have hyl1 : y.data.length ≤ 4294967296 := by rw [hx3, List.length_drop]; omega
  have hyl2 : y.sent.length ≤ 4294967296 := by rw [hx4, List.length_drop]; omega
  unfold F7_L6
  refine LoopW.countTo (s.sent.take k).length (fun i => (n, (k : Int), s.sent.take k, (((s.sent.take k).length : Nat) : Int), (i : Int), s.base, s.window, s.data, s.sent, y.base, y.window, y.data, y.sent, ())) (fun _ => True) rfl (fun i hi _ W hW => ?_) trivial
  dsimp only
  unfold F7_B6
  by_cases hlt : i < (s.sent.take k).length
  · rw [show decide ((i : Int) < (((s.sent.take k).length : Nat) : Int)) = true from decide_eq_true (by omega), cond_true]
    refine At_of hlt ?_
    have hge : ¬ (s.sent.take k)[i] < 0 := fun hneg => by
      have hi2 : i < s.sent.length := by rw [List.length_take] at hlt; omega
      have e1 := (sent_in hs hi2).1
      have e2 : (s.sent.take k)[i] = s.sent[i] := List.getElem_take
      have : (s.sent.take k)[i] = -1 := by omega
      exact hm (by rw [← this]; exact List.getElem_mem hlt)
    rw [decide_eq_false hge, cond_false, wrapS hlt (by rw [List.length_take]; omega)]
    exact hW hlt trivial
  · rw [show decide ((i : Int) < (((s.sent.take k).length : Nat) : Int)) = false from decide_eq_false (by omega), cond_false, Int.toNat_natCast, hyy, ha2]
    refine ⟨trivial, by omega, by omega, hyl1, ?_⟩
    rw [decide_eq_true hx3, cond_true]
    refine ⟨by omega, by omega, hyl2, ?_⟩
    rw [decide_eq_true hx4, cond_true, show decide ((0 : Int) = 0) = true from rfl, cond_true]
    refine ⟨⟨hyl1, hyl2⟩, ?_⟩
    simp only [decide_true, cond_true]
    exact ⟨trivial, h⟩
theorem arqAcknowledged.calls (g : prodL L7) (hw : wfL L7 g) (hb : bkL L7 g ≤ 1048576) : FCalls Try.prog 7 (argsT S7 L7 g) [] (fun r _ => r = .bool true) fun _ _ => False := by
  obtain ⟨b, w, data, sent, n, u⟩ := g
  have h1 := bbytes data
  have h2 := blen (e := .i64) (fun x => by simp [bk]) sent
  simp only [bkL] at hb
  exact F7_ok _ _ _ (F7_is (s := ⟨b, w, data, sent⟩) (by dsimp only; omega) (by dsimp only; omega) (by dsimp only; omega) rfl)
end Go.Proofs.Ytofjpelbjehddaa
