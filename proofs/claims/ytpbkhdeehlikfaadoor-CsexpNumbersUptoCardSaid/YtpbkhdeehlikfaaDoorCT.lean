/-
  Csexp: the law Numbers.
-/
import Derived.Test.YtpbkhdeehlikfaaDoorFL
namespace Go.Proofs.YtpbkhdeehlikfaaDoor
set_option linter.unusedVariables false
set_option linter.unusedSimpArgs false
set_option linter.unusedSectionVars false
open Go.RowKit

theorem bk_le {b : Bool} {a : ByteArray} {l : List Sx} {N : Nat} (h : bkL [.bool, .str, .sl .sexp] (b, a, l, ()) ≤ N) : bkS ⟨b, a, l⟩ ≤ N := by
  have e : (l.map (bk .sexp)).sum = (l.map bkS).sum := rfl
  simp only [bkL] at h
  simp only [bkS, bkSs_sum]
  omega
theorem nm_eq (x : Sx) : nmG x = nmN x := by unfold nmG nmN; rw [check_eq]
theorem csexpNumbers.calls (g : prodL L4) (hw : wfL L4 g) (hb : bkL L4 g ≤ 1048576) : FCalls Tryd.prog 4 (argsT S4 L4 g) [] (fun r _ => r = .bool true) fun _ _ => False := by
  obtain ⟨n, b, a, l, ⟨⟩⟩ := g
  have hn : intP n := hw.1
  have hk : bkS ⟨b, a, l⟩ ≤ lim := by
    have hb : 1 + bkL [.bool, .str, .sl .sexp] (b, a, l, ()) ≤ 1048576 := hb
    have := bk_le (Nat.le_trans (Nat.le_add_left _ 1) hb)
    rw [lim_eq]; omega
  refine F4_ok _ _ _ ?_
  unfold F4
  dsimp only
  refine ⟨hk, ?_⟩
  cases hg : grT ⟨b, a, l⟩ with
  | true => exact ⟨trivial, rfl⟩
  | false =>
    have hi : bkS (intB n).1 ≤ lim := by
      have := decB_size hn
      unfold intB
      split
      · show 3 ≤ lim; rw [lim_eq]; omega
      · show (decB n).size + 3 + 0 ≤ lim; rw [lim_eq]; omega
    refine ⟨hn, hn, hk, hk, ?_, ?_⟩
    · show bkS ⟨_, _, _⟩ ≤ lim
      rw [Sx.eta]; exact hi
    · rw [Sx.eta, smR_refl, cond_true, decide_eq_true rfl, cond_true, nm_eq, decide_eq_true rfl, cond_true, decide_eq_true rfl, cond_true]
      exact ⟨trivial, rfl⟩
end Go.Proofs.YtpbkhdeehlikfaaDoor
