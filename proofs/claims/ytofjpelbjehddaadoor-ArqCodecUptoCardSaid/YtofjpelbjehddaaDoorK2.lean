/-
  Arq codec: Encode, of both.
-/
import Derived.Test.YtofjpelbjehddaaDoorKB
namespace Go.Proofs.YtofjpelbjehddaaDoor
set_option linter.unusedVariables false
set_option linter.unusedSimpArgs false
set_option linter.unusedSectionVars false
open Go.RowKit
theorem F6_is {f : Frm} {K : Kn} (h : K (.tu [.str (kEnc f).1, .int .i64 (kEnc f).2]) []) : F6 (f.ack, f.number, f.data, ()) K := by
  unfold kEnc at h
  refine ⟨trivial, ?_⟩
  dsimp only
  rw [bif_ndec]
  by_cases h0 : frmErr f = 0
  · rw [if_pos h0] at h
    rw [if_pos h0]
    refine ⟨int_P h0, ?_⟩
    rw [int_ok h0, decide_eq_true rfl, Bool.not_true, cond_false]
    have hk := bk_kS h0
    unfold kS at h hk
    rw [int_ok h0] at h hk
    exact ⟨trivial, ⟨Nat.le_trans hk (by rw [lim_eq]; omega), encode_ok⟩, h⟩
  · rw [if_neg h0] at h
    rw [if_neg h0]
    exact h
theorem F7_is {f : Frm} {K : Kn} (h : K (.tu [.str (kEnc f).1, .int .i64 (kEnc f).2]) []) : F7 (f.ack, f.number, f.data, ()) K := by
  unfold kEnc at h
  refine ⟨trivial, ?_⟩
  dsimp only
  rw [bif_ndec]
  by_cases h0 : frmErr f = 0
  · rw [if_pos h0] at h
    rw [if_pos h0]
    have hk := bk_kS h0
    unfold kS at h hk
    rw [int_ok h0] at h hk
    have hJ : F7_J2 K (wordB f.ack) f.ack f.number f.data := by
      unfold F7_J2
      rw [int_ok h0]
      exact ⟨int_P h0, Nat.le_trans hk (by rw [lim_eq]; omega), h⟩
    cases ha : f.ack <;> rw [ha] at hJ <;> exact hJ
  · rw [if_neg h0] at h
    rw [if_neg h0]
    exact h
def sp6 : Sp := ⟨S6, L6, fun _ => True, fun g => .tu [.str (kEnc ⟨g.1, g.2.1, g.2.2.1⟩).1, .int .i64 (kEnc ⟨g.1, g.2.1, g.2.2.1⟩).2], fun _ => none⟩
theorem sp6_ok : sp6.Ok Tryd.prog 6 true :=
  ⟨fun g K X _ h => F6_ok g K X (F6_is (f := ⟨g.1, g.2.1, g.2.2.1⟩) h), fun _ _ _ => rfl, fun _ => rfl, fun _ _ => ⟨rfl, rfl⟩⟩
def sp7 : Sp := ⟨S7, L7, fun _ => True, sp6.res, fun _ => none⟩
theorem sp7_ok : sp7.Ok Tryd.prog 7 true :=
  ⟨fun g K X _ h => F7_ok g K X (F7_is (f := ⟨g.1, g.2.1, g.2.2.1⟩) h), fun _ _ _ => rfl, fun _ => rfl, fun _ _ => ⟨rfl, rfl⟩⟩
end Go.Proofs.YtofjpelbjehddaaDoor
