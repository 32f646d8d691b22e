/-
  Arq codec: words; what is encoded.
-/
import Derived.Test.YtofjpelbjehddaaDoorKA
namespace Go.Proofs.YtofjpelbjehddaaDoor
set_option linter.unusedVariables false
set_option linter.unusedSimpArgs false
set_option linter.unusedSectionVars false
open Go.RowKit
def wordB (a : Bool) : ByteArray := if a = true then ⟨#[97, 99, 107]⟩ else ⟨#[100, 97, 116, 97]⟩
def sp19 : Sp := ⟨S19, L19, fun _ => True, fun g => .str (wordB g.1), fun _ => none⟩
theorem sp19_ok : sp19.Ok Tryd.prog 19 true :=
  ⟨by
    rintro ⟨a, n, d, ⟨⟩⟩ K X _ h
    have h : K (.str (wordB a)) [] := h
    refine F19_ok _ K X ?_
    unfold F19
    cases a <;> exact h, fun _ _ _ => rfl, fun _ => rfl, fun _ _ => ⟨rfl, rfl⟩⟩
/-- What a frame is encoded as. -/
def kS (f : Frm) : Sx := ⟨true, ⟨#[]⟩, [⟨false, wordB f.ack, []⟩, (intB f.number).1, ⟨false, f.data, []⟩]⟩
def kEnc (f : Frm) : ByteArray × Int := if frmErr f = 0 then enT (kS f) else (⟨#[]⟩, frmErr f)
theorem frm_ok {f : Frm} (h : frmErr f = 0) : (0 ≤ f.number ∧ f.number ≤ 1099511627776) ∧ f.data.size ≤ 65472 := by
  unfold frmErr okN at h
  split at h
  · omega
  · rename_i h1
    split at h
    · omega
    · rename_i h2
      simp only [Bool.not_eq_false, decide_eq_true_eq] at h1
      exact ⟨h1, by omega⟩
theorem int_ok {f : Frm} (h : frmErr f = 0) : intB f.number = (⟨false, decB f.number, []⟩, 0) := by
  obtain ⟨⟨h1, h2⟩, _⟩ := frm_ok h
  unfold intB
  rw [if_neg (by omega)]
theorem int_P {f : Frm} (h : frmErr f = 0) : intP f.number := by
  obtain ⟨⟨h1, h2⟩, _⟩ := frm_ok h
  exact ⟨by omega, by omega⟩
theorem word_size (a : Bool) : (wordB a).size ≤ 4 := by cases a <;> decide
theorem bk_kS {f : Frm} (h : frmErr f = 0) : bkS (kS f) ≤ 70000 := by
  have h1 := word_size f.ack
  have h2 := decB_size (int_P h)
  have h3 := (frm_ok h).2
  unfold kS
  rw [int_ok h]
  simp only [bkS, bkSs]
  have : (⟨#[]⟩ : ByteArray).size = 0 := rfl
  omega
end Go.Proofs.YtofjpelbjehddaaDoor
