/-
  Csexp: the laws Read and Ints.
-/
import Derived.Test.YtpbkhdeehlikfaaDoorFJ
namespace Go.Proofs.YtpbkhdeehlikfaaDoor
set_option linter.unusedVariables false
set_option linter.unusedSimpArgs false
set_option linter.unusedSectionVars false
open Go.RowKit

mutual
theorem smR_refl : ∀ x : Sx, smR x x = true
  | ⟨b, a, l⟩ => by simp [smR, smRs_refl l]
theorem smRs_refl : ∀ l : List Sx, smRs l l = true
  | [] => rfl
  | x :: l => by simp [smRs, smR_refl x, smRs_refl l]
end
theorem bk_sx0 : bkS sx0 = 3 := rfl
theorem rdT_bk (s : ByteArray) : bkS (rdT s).1 ≤ 4 * s.size + 3 := by
  have hs := rdS_sound 12 0 (bl s) (by omega)
  unfold rdT
  cases hr : rdS 12 0 (bl s) with
  | err e => show bkS sx0 ≤ _; rw [bk_sx0]; omega
  | ok a =>
    obtain ⟨x, k, r⟩ := a
    obtain ⟨⟨p, _, p2, p3⟩, _⟩ := hs.1 x k r hr
    have := bl_len s
    rw [p2, List.length_append] at this
    show bkS x ≤ _
    omega
theorem dcT_bk (s : ByteArray) : bkS (dcT s).1 ≤ 4 * s.size + 3 := by
  have := rdT_bk s
  unfold dcT
  split
  · split
    · exact this
    · show bkS sx0 ≤ _; rw [bk_sx0]; omega
  · show bkS sx0 ≤ _; rw [bk_sx0]; omega
theorem csexpRead.calls (g : prodL L3) (hw : wfL L3 g) (hb : bkL L3 g ≤ 1048576) : FCalls Tryd.prog 3 (argsT S3 L3 g) [] (fun r _ => r = .bool true) fun _ _ => False := by
  obtain ⟨s, ⟨⟩⟩ := g
  refine F3_ok _ _ _ ?_
  unfold F3
  dsimp only
  rw [bif_dec]
  split
  · exact ⟨trivial, rfl⟩
  · rename_i h
    have h1 := rdT_bk s
    have h2 := dcT_bk s
    have hp : topP s := (by omega : s.size ≤ 2147483648)
    refine ⟨hp, hp, hp, hp, ?_, ?_⟩
    · show bkS ⟨_, _, _⟩ ≤ lim
      rw [Sx.eta, lim_eq]; omega
    · rw [Sx.eta, smR_refl, cond_true, decide_eq_true rfl, cond_true, decide_eq_true rfl, cond_true]
      refine ⟨?_, ?_⟩
      · show bkS ⟨_, _, _⟩ ≤ lim
        rw [Sx.eta, lim_eq]; omega
      · rw [Sx.eta, smR_refl, cond_true, decide_eq_true rfl, cond_true]
        exact ⟨trivial, rfl⟩
theorem dec_len : ∀ (k u : Nat), u < 10 ^ (k + 1) → (Lib.decDigits u).length ≤ k + 1
  | 0, u, h => by rw [Lib.decDigits_one (by omega)]; simp
  | k + 1, u, h => by
    by_cases hu : u < 10
    · rw [Lib.decDigits_one hu]; simp
    · rw [Lib.decDigits, dif_neg hu, List.length_append]
      have := dec_len k (u / 10) (by rw [Nat.pow_succ] at h; omega)
      simp only [List.length_cons, List.length_nil]; omega
theorem bl_dec (n : Int) : bl (decB n) = Lib.itoa n := bl_mk _
theorem decB_size {n : Int} (h : intP n) : (decB n).size ≤ 21 := by
  rw [← bl_len, bl_dec]
  obtain ⟨h1, h2⟩ : -9223372036854775808 ≤ n ∧ n ≤ 9223372036854775807 := h
  unfold Lib.itoa
  split
  · have := dec_len 19 n.natAbs (by omega)
    simp only [List.length_cons]; omega
  · have := dec_len 19 n.toNat (by omega)
    omega
theorem ck_atom {a : ByteArray} (h : a.size ≤ 65536) : ckG ⟨false, a, []⟩ = 0 := by
  simp [ckG, madd, shS, shSs]
  omega
theorem csexpInts.calls (g : prodL L5) (hw : wfL L5 g) (hb : bkL L5 g ≤ 1048576) : FCalls Tryd.prog 5 (argsT S5 L5 g) [] (fun r _ => r = .bool true) fun _ _ => False := by
  obtain ⟨n, s, ⟨⟩⟩ := g
  have hn : intP n := hw.1
  refine F5_ok _ _ _ ?_
  unfold F5
  dsimp only
  rw [bif_dec]
  split
  · exact ⟨trivial, rfl⟩
  rename_i hs
  have bk3 : ∀ a : ByteArray, a.size ≤ 1000 → bkP (false, a, [], ()) := fun a ha => by
    show a.size + 3 + 0 ≤ lim
    rw [lim_eq]; omega
  have hJ : F5_J6 (fun r _ => r = .bool true) s := by
    unfold F5_J6
    refine ⟨bk3 s (by omega), ?_⟩
    rw [bif_dec]
    split
    · rename_i h0
      have hc := ck_atom (a := s) (by omega)
      have e : nmG ⟨false, s, []⟩ = if canR (bl s) = true then numV (bl s) else (0, 3) := by
        unfold nmG nmB
        rw [hc, if_pos rfl, if_neg (by simp)]
      rw [e] at h0 ⊢
      by_cases hcan : canR (bl s) = true
      · rw [if_pos hcan] at h0 ⊢
        obtain ⟨k1, k2⟩ := itoa_num hcan (m := (numV (bl s)).1) (Prod.ext rfl h0)
        generalize (numV (bl s)).1 = m at k1 k2 ⊢
        have hm : intB m = (⟨false, decB m, []⟩, 0) := by unfold intB; rw [if_neg k2]
        rw [hm]
        refine ⟨⟨(by omega : -9223372036854775808 ≤ m), (by omega : m ≤ 9223372036854775807)⟩, ?_⟩
        rw [decide_eq_true rfl, cond_true, decide_eq_true (show decB m = s from bl_inj (by rw [bl_dec]; exact k1)), cond_true]
        exact ⟨trivial, rfl⟩
      · rw [if_neg hcan] at h0
        exact absurd h0 (by decide)
    · exact ⟨trivial, rfl⟩
  refine ⟨hn, ?_⟩
  rw [bif_dec]
  by_cases hr : n < -1099511627776 ∨ 1099511627776 < n
  · have hm : intB n = (sx0, 2) := by unfold intB; rw [if_pos hr]
    rw [hm, if_neg (by decide), decide_eq_true rfl]
    show bif decide (-1099511627776 ≤ n) then _ else _
    rw [bif_dec]
    split
    · rename_i h1; rw [decide_eq_false (fun h2 => hr.elim (fun h3 => Int.not_le.2 h3 h1) fun h3 => Int.not_le.2 h3 h2)]; exact hJ
    · exact hJ
  · have hm : intB n = (⟨false, decB n, []⟩, 0) := by unfold intB; rw [if_neg hr]
    have hsz := decB_size hn
    have hc := ck_atom (a := decB n) (by omega)
    have e : nmG ⟨false, decB n, []⟩ = (n, 0) := by
      unfold nmG nmB
      rw [hc, if_pos rfl, if_neg (by simp)]
      dsimp only
      rw [bl_dec, if_pos (can_itoa n), num_itoa hr]
    rw [hm, if_pos rfl]
    dsimp only
    refine ⟨bk3 _ (by omega), ?_⟩
    rw [e]
    dsimp only
    rw [decide_eq_true rfl, decide_eq_true rfl, hc, decide_eq_true rfl]
    exact ⟨bk3 _ (by omega), hJ⟩
end Go.Proofs.YtpbkhdeehlikfaaDoor
