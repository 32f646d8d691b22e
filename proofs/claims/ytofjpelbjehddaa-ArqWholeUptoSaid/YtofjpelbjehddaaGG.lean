/-
  Arq: the law ArqWhole.
-/
import Derived.Test.YtofjpelbjehddaaGF
namespace Go.Proofs.Ytofjpelbjehddaa
set_option linter.unusedVariables false
set_option linter.unusedSimpArgs false
open Go.RowKit

abbrev Wty := prodL [.int .i64, .sl .act, .int .i64, .int .i64, .int .i64, .int .i64, .sl .str, .sl .i64, .int .i64, .sl .boo, .sl .str, .sl .str, .sl .str, .sl .frm, .sl .frm]
abbrev wSt (acts : List Deed) (N n : Nat) (s : Snd) (r : Rcv) (p : Nat) (O : List ByteArray) (F A : List Frm) (c : Int) : Wty :=
  (c, acts, (N : Int), (n : Int), s.base, s.window, s.data, s.sent, r.next, r.have_, r.data, O, O.take p, F, A, ())
theorem F8_J38_is {K : Kn} {W : Wty → Prop} {acts : List Deed} {N n : Nat} {s : Snd} {r : Rcv} {b p : Nat} {O : List ByteArray} {F A : List Frm} {c : Int} (h : WInv (n + 1) s r b p O F A c) (hn : n < N) (hN : N ≤ 40) (hW : W (wSt acts N (n + 1) s r p O F A c)) :
    F8_J38 K W c 0 acts (N : Int) (n : Int) s.base s.window s.data s.sent r.next r.have_ r.data O (O.take p) F A := by
  have hpl := h.pl
  have hol := h.ol
  have hl : (O.take p).length = p := by rw [List.length_take]; omega
  unfold F8_J38
  rw [show decide ((0 : Int) = 0) = true from rfl, Bool.not_true, cond_false]
  refine ⟨trivial, ?_⟩
  rw [show (⟨s.base, s.window, s.data, s.sent⟩ : Snd) = s from rfl, decide_eq_true (Snd.err_iff.2 h.sok), Bool.not_true, cond_false, hl, decide_eq_false (by omega), cond_false, Int.toNat_natCast, Int.toNat_zero, List.drop_zero, Nat.sub_zero]
  refine ⟨by decide, by omega, by omega, (by omega : (O.take p).length ≤ 4294967296), ?_⟩
  have hb := h.base
  have hbp := h.bp
  rw [decide_eq_true rfl, Bool.not_true, cond_false, decide_eq_false (by omega), cond_false, decide_eq_true h.rinv.next, Bool.not_true]
  unfold F8_J37
  rw [cond_false, wrapS hn (by omega)]
  exact hW
theorem deed_at {a : Int} {l : Nat} (h0 : 0 ≤ a) (h1 : a ≤ 255) (hl : 0 < l) : ∃ i : Nat, i < l ∧ Int.tmod (IntKind.i64.wrap a) (l : Int) = (i : Int) := by
  obtain ⟨m, rfl⟩ := Int.eq_ofNat_of_zero_le h0
  refine ⟨m % l, Nat.mod_lt _ hl, ?_⟩
  rw [wrap64 (by omega) (by omega), Int.tmod_eq_emod_of_nonneg (by omega), ← Int.natCast_emod]
theorem F8_is {w : Int} {acts : List Deed} {K : Kn} (hu : ∀ x ∈ acts, 0 ≤ x.at_ ∧ x.at_ ≤ 255) (h : K (.bool true) []) : F8 (w, acts, ()) K := by
  unfold F8
  dsimp only [Lf.ty, prodL]
  refine ⟨trivial, ?_⟩
  by_cases hw : w < 1 ∨ 64 < w
  · have e : newOf w = (noSnd, 2) := by unfold newOf; rw [if_pos hw]
    rw [e, show (!decide ((noSnd, (2 : Int)).2 = 0)) = true from rfl, cond_true]
    unfold F8_J2
    rw [cond_true]
    exact ⟨trivial, h⟩
  have e : newOf w = (⟨0, w, [], []⟩, 0) := by unfold newOf; rw [if_neg hw]
  rw [e, show (!decide (((⟨0, w, [], []⟩ : Snd), (0 : Int)).2 = 0)) = false from rfl, cond_false]
  unfold F8_J2
  by_cases hl : 40 < acts.length
  · rw [show decide (40 < (acts.length : Int)) = true from decide_eq_true (by omega), cond_true, show decide ((0 : Int) = 2) = false from rfl, cond_false, cond_true]
    exact ⟨trivial, h⟩
  rw [show decide (40 < (acts.length : Int)) = false from decide_eq_false (by omega), cond_false]
  have hs0 : SOk ⟨0, w, [], []⟩ := ⟨by dsimp only; omega, by dsimp only; omega, Int.le_refl 0, by show (0 : Int) + 0 ≤ 1099511627776; decide, Nat.zero_le _, rfl, fun k h1 => absurd h1 (Nat.not_lt_zero k)⟩
  have hI0 : WInv 0 ⟨0, w, [], []⟩ ⟨0, [], []⟩ 0 0 [] [] [] 0 := ⟨hs0, Int.le_refl 0, Int.le_refl 0, Nat.le_refl 0, by simp, rfl, Nat.le_refl _, rfl, RInv.zero [], Nat.le_refl 0, Nat.le_refl 0, by simp, fun j hj => by
    rcases hj with hj | ⟨i, _, hj⟩
    · exact absurd hj (Nat.not_lt_zero j)
    · simp at hj, by simp⟩
  unfold F8_L27
  refine LoopW.of (fun g => ∃ (n : Nat) (s : Snd) (r : Rcv) (b p : Nat) (O : List ByteArray) (F A : List Frm) (c : Int), g = wSt acts acts.length n s r p O F A c ∧ n ≤ acts.length ∧ WInv n s r b p O F A c) (fun g => acts.length - g.2.2.2.1.toNat) ?_ ⟨0, ⟨0, w, [], []⟩, ⟨0, [], []⟩, 0, 0, [], [], [], 0, rfl, Nat.zero_le _, hI0⟩
  rintro _ ⟨n, s, r, b, p, O, F, A, c, rfl, hn, hI⟩ W hW
  dsimp only
  unfold F8_B27
  by_cases hlt : n < acts.length
  case neg =>
    rw [show decide ((n : Int) < (acts.length : Int)) = false from decide_eq_false (by omega), cond_false]
    exact ⟨trivial, h⟩
  rw [show decide ((n : Int) < (acts.length : Int)) = true from decide_eq_true (by omega), cond_true]
  refine At_of hlt ?_
  obtain ⟨u1, u2⟩ := hu acts[n] (List.getElem_mem hlt)
  generalize acts[n] = u at *
  by_cases hs : 20 < u.data.size
  · rw [show decide (20 < (u.data.size : Int)) = true from decide_eq_true (by omega), cond_true]
    exact ⟨trivial, h⟩
  rw [show decide (20 < (u.data.size : Int)) = false from decide_eq_false (by omega), cond_false]
  have go : ∀ {s' : Snd} {r' : Rcv} {b' p' : Nat} {O' : List ByteArray} {F' A' : List Frm} {c' : Int}, WInv (n + 1) s' r' b' p' O' F' A' c' → F8_J38 K W c' 0 acts (acts.length : Int) (n : Int) s'.base s'.window s'.data s'.sent r'.next r'.have_ r'.data O' (O'.take p') F' A' :=
    fun h' => F8_J38_is h' hlt (by omega) (hW _ ⟨n + 1, _, _, _, _, _, _, _, _, rfl, by omega, h'⟩ (by simp only [Int.toNat_natCast]; omega))
  have hfl := hI.fl
  have hal := hI.al
  have hol := hI.ol
  have hpl := hI.pl
  have hss : (⟨s.base, s.window, s.data, s.sent⟩ : Snd) = s := rfl
  have hrr : (⟨r.next, r.have_, r.data⟩ : Rcv) = r := rfl
  by_cases k0 : u.kind = 0
  · rw [decide_eq_true k0, cond_true, hss]
    obtain ⟨s', e1, e2⟩ := hI.offer (by omega) (d := u.data) (by omega)
    rw [e1]
    refine ⟨trivial, by simp only [List.length_singleton]; omega, ?_⟩
    have := go e2
    rw [List.take_append_of_le_length hpl] at this
    exact this
  rw [decide_eq_false k0, cond_false]
  by_cases k1 : u.kind = 1
  · rw [decide_eq_true k1, cond_true, hss]
    have c0 := hI.c0
    have c1 := hI.c1
    have ht : 0 ≤ Int.tmod (IntKind.i64.wrap u.at_) 8 ∧ Int.tmod (IntKind.i64.wrap u.at_) 8 ≤ 7 := by
      rw [wrap64 (by omega) (by omega), Int.tmod_eq_emod_of_nonneg u1]; omega
    generalize Int.tmod (IntKind.i64.wrap u.at_) 8 = t at *
    rw [wrap64 (n := c + t) (by omega) (by omega)]
    obtain ⟨s', l, e1, e2, e3⟩ := hI.poll (by omega) (c' := c + t) (by omega) (by omega)
    rw [e1]
    exact ⟨by decide, trivial, by dsimp only; omega, go e3⟩
  rw [decide_eq_false k1, cond_false]
  have last : F8_J33 K W c 0 acts (acts.length : Int) (n : Int) false s.base s.window s.data s.sent r.next r.have_ r.data O (O.take p) F A u.kind u.data u.at_ := by
    unfold F8_J33
    rw [cond_false]
    exact go hI.later
  have mid : F8_J34 K W c 0 acts (acts.length : Int) (n : Int) false s.base s.window s.data s.sent r.next r.have_ r.data O (O.take p) F A u.kind u.data u.at_ := by
    unfold F8_J34
    rw [cond_false]
    by_cases k3 : u.kind = 3
    · rw [decide_eq_true k3, cond_true]
      by_cases ha : 0 < A.length
      · rw [show decide (0 < (A.length : Int)) = true from decide_eq_true (by omega)]
        unfold F8_J33
        rw [cond_true, hss]
        obtain ⟨i, hi, ei⟩ := deed_at u1 u2 ha
        rw [ei]
        refine ⟨by omega, atI_of (List.getElem?_eq_getElem hi) ⟨trivial, ?_⟩⟩
        obtain ⟨s', b', e1, e2⟩ := hI.ack (by omega) (a := A[i]) (List.getElem_mem hi)
        rw [e1]
        exact go e2
      · rw [show decide (0 < (A.length : Int)) = false from decide_eq_false (by omega)]
        exact last
    · rw [decide_eq_false k3, cond_false]
      exact last
  by_cases k2 : u.kind = 2
  · rw [decide_eq_true k2, cond_true]
    by_cases ha : 0 < F.length
    · rw [show decide (0 < (F.length : Int)) = true from decide_eq_true (by omega)]
      unfold F8_J34
      rw [cond_true, hrr]
      obtain ⟨i, hi, ei⟩ := deed_at u1 u2 ha
      rw [ei]
      refine ⟨by omega, atI_of (List.getElem?_eq_getElem hi) ⟨trivial, ?_⟩⟩
      obtain ⟨r', p', e1, e2, e3⟩ := hI.accept (by omega) (f := F[i]) (List.getElem_mem hi)
      rw [e1]
      dsimp only
      rw [take_more e2]
      have hl1 : (O.take p).length ≤ 40 := by rw [List.length_take]; omega
      have hl2 : ((O.drop p).take (p' - p)).length ≤ 40 := by rw [List.length_take, List.length_drop]; omega
      exact ⟨by omega, by simp only [List.length_singleton]; omega, go e3⟩
    · rw [show decide (0 < (F.length : Int)) = false from decide_eq_false (by omega)]
      exact mid
  · rw [decide_eq_false k2, cond_false]
    exact mid
theorem arqWhole.calls (g : prodL L8) (hw : wfL L8 g) (hb : bkL L8 g ≤ 1048576) : FCalls Try.prog 8 (argsT S8 L8 g) [] (fun r _ => r = .bool true) fun _ _ => False := by
  obtain ⟨w, acts, u⟩ := g
  exact F8_ok _ _ _ (F8_is (fun x hx => u8_wf (hw.2.1 x hx).2) rfl)
end Go.Proofs.Ytofjpelbjehddaa
