/-
  Csexp: the bounds of the statements; the chapter's examples.
-/
import Derived.Test.YtpbkhdeehlikfaaDoorFI
namespace Go.Proofs.YtpbkhdeehlikfaaDoor
set_option linter.unusedVariables false
set_option linter.unusedSimpArgs false
set_option linter.unusedSectionVars false
open Go.RowKit

def grT (x : Sx) : Bool := decide (60 < cnt x 60 20) || lgR x
def sp17 : Sp := ⟨S17, L17, bkP, fun g => .bool (grT ⟨g.1, g.2.1, g.2.2.1⟩), fun _ => none⟩
theorem sp17_ok : sp17.Ok Tryd.prog 17 true :=
  ⟨by
    rintro ⟨b, a, l, ⟨⟩⟩ K X q1 h
    have h : K (.bool (grT ⟨b, a, l⟩)) [] := h
    have q1 : bkS ⟨b, a, l⟩ ≤ lim := q1
    refine F17_ok (b, a, l, ()) K X ⟨⟨q1, ⟨(by omega : (0 : Int) ≤ 60), (by omega : (60 : Int) ≤ 1099511627776)⟩, (by omega : (0 : Int) ≤ 20), (by omega : (20 : Int) ≤ 1099511627776)⟩, ?_⟩
    unfold grT at h
    dsimp only
    rw [bif_dec]
    split
    · rename_i h1; rw [decide_eq_true h1, Bool.true_or] at h; exact h
    · rename_i h1; rw [decide_eq_false h1, Bool.false_or] at h; exact ⟨q1, h⟩, fun _ _ _ => rfl, fun _ => rfl, fun _ _ => ⟨rfl, rfl⟩⟩
def sp11 : Sp := ⟨S11, L11, fun _ => True, fun _ => .bool true, fun _ => none⟩
theorem w1 : dcT (⟨#[40, 51, 58, 97, 98, 99, 50, 58, 45, 55, 41]⟩ : ByteArray) = (⟨true, ⟨#[]⟩, [⟨false, ⟨#[97, 98, 99]⟩, []⟩, ⟨false, ⟨#[45, 55]⟩, []⟩]⟩, 0) := by kernel_rfl
theorem w2 : (dcT (⟨#[40, 51, 58, 97, 98]⟩ : ByteArray)).2 = 11 := by kernel_rfl
theorem w3 : (dcT (⟨#[48, 51, 58, 97, 98, 99]⟩ : ByteArray)).2 = 12 := by kernel_rfl
theorem w4 : nmG ⟨false, ⟨#[45, 55]⟩, []⟩ = (-7, 0) := by kernel_rfl
theorem sp11_ok : sp11.Ok Tryd.prog 11 true :=
  ⟨by
    rintro ⟨⟩ K X q1 h
    have h : K (.bool true) [] := h
    refine F11_ok () K X ?_
    unfold F11
    rw [w1, w2, w3]
    refine ⟨(by decide : (11 : Nat) ≤ 2147483648), ?_⟩
    rw [bif_ndec]
    rw [if_pos (by decide)]
    refine At_of (n := 1) (by simp) ?_
    dsimp only [List.getElem_cons_succ, List.getElem_cons_zero]
    rw [w4]
    refine ⟨(by show bkS ⟨false, ⟨#[45, 55]⟩, []⟩ ≤ lim; decide), (by decide : (5 : Nat) ≤ 2147483648), (by decide : (6 : Nat) ≤ 2147483648), ?_⟩
    refine At_of (n := 0) (by simp) ?_
    exact h, fun _ _ _ => rfl, fun _ => rfl, fun _ _ => ⟨rfl, rfl⟩⟩
end Go.Proofs.YtpbkhdeehlikfaaDoor
