/-
  Arq: the example of the chapter.
-/
import Derived.Test.YtofjpelbjehddaaFI1
namespace Go.Proofs.Ytofjpelbjehddaa
set_option linter.unusedVariables false
set_option linter.unusedSimpArgs false
set_option linter.unusedSectionVars false
open Go.RowKit

abbrev wA : ByteArray := ⟨#[97]⟩
abbrev wB : ByteArray := ⟨#[98]⟩
abbrev wC : ByteArray := ⟨#[99]⟩
theorem aw_n : newOf 2 = (⟨0, 2, [], []⟩, 0) := by kernel_rfl
theorem aw_o1 : offerOf ⟨0, 2, [], []⟩ wA = (⟨0, 2, [wA], [-1]⟩, 0) := by kernel_rfl
theorem aw_o2 : offerOf ⟨0, 2, [wA], [-1]⟩ wB = (⟨0, 2, [wA, wB], [-1, -1]⟩, 0) := by kernel_rfl
theorem aw_o3 : offerOf ⟨0, 2, [wA, wB], [-1, -1]⟩ wC = (⟨0, 2, [wA, wB, wC], [-1, -1, -1]⟩, 0) := by kernel_rfl
theorem aw_p1 : pollOf ⟨0, 2, [wA, wB, wC], [-1, -1, -1]⟩ 5 = (⟨0, 2, [wA, wB, wC], [5, 5, -1]⟩, [⟨false, 0, wA⟩, ⟨false, 1, wB⟩]) := by kernel_rfl
theorem aw_p2 : pollOf ⟨0, 2, [wA, wB, wC], [5, 5, -1]⟩ 8 = (⟨0, 2, [wA, wB, wC], [5, 5, -1]⟩, []) := by kernel_rfl
theorem aw_p3 : pollOf ⟨0, 2, [wA, wB, wC], [5, 5, -1]⟩ 9 = (⟨0, 2, [wA, wB, wC], [9, 9, -1]⟩, [⟨false, 0, wA⟩, ⟨false, 1, wB⟩]) := by kernel_rfl
theorem aw_k : ackOf ⟨0, 2, [wA, wB, wC], [9, 9, -1]⟩ ⟨true, 1, ⟨#[]⟩⟩ = (⟨1, 2, [wB, wC], [9, -1]⟩, 0) := by kernel_rfl
theorem aw_p4 : pollOf ⟨1, 2, [wB, wC], [9, -1]⟩ 10 = (⟨1, 2, [wB, wC], [9, 10]⟩, [⟨false, 2, wC⟩]) := by kernel_rfl
theorem aw_a1 : acceptOf ⟨0, [], []⟩ ⟨false, 1, wB⟩ = (⟨0, [false, true], [⟨#[]⟩, wB]⟩, [], ⟨true, 0, ⟨#[]⟩⟩, 0) := by kernel_rfl
theorem aw_a2 : acceptOf ⟨0, [false, true], [⟨#[]⟩, wB]⟩ ⟨false, 0, wA⟩ = (⟨2, [], []⟩, [wA, wB], ⟨true, 2, ⟨#[]⟩⟩, 0) := by kernel_rfl
def awS : Nat → prodL [.int .i64, .sl .str, .int .i64, .int .i64, .int .i64, .int .i64, .sl .str, .sl .i64]
  | 0 => (0, [wA, wB, wC], 3, 0, 0, 2, [], [], ())
  | 1 => (0, [wA, wB, wC], 3, 1, 0, 2, [wA], [-1], ())
  | 2 => (0, [wA, wB, wC], 3, 2, 0, 2, [wA, wB], [-1, -1], ())
  | _ => (0, [wA, wB, wC], 3, 3, 0, 2, [wA, wB, wC], [-1, -1, -1], ())
theorem F10_is {K : Kn} (h : K (.bool true) []) : F10 () K := by
  unfold F10
  refine ⟨trivial, ?_⟩
  rw [aw_n]
  unfold F10_L2
  refine LoopW.countTo 3 awS (fun _ => True) rfl (fun n hn _ W hW => ?_) trivial
  match n, hn with
  | 0, _ =>
    have hW := hW (by decide) trivial
    show F10_B2 K W 0 [wA, wB, wC] 3 0 0 2 [] []
    unfold F10_B2
    rw [show decide ((0 : Int) < 3) = true from rfl, cond_true]
    refine ⟨by decide, wA, rfl, trivial, ?_⟩
    rw [aw_o1]
    exact hW
  | 1, _ =>
    have hW := hW (by decide) trivial
    show F10_B2 K W 0 [wA, wB, wC] 3 1 0 2 [wA] [-1]
    unfold F10_B2
    rw [show decide ((1 : Int) < 3) = true from rfl, cond_true]
    refine ⟨by decide, wB, rfl, trivial, ?_⟩
    rw [aw_o2]
    exact hW
  | 2, _ =>
    have hW := hW (by decide) trivial
    show F10_B2 K W 0 [wA, wB, wC] 3 2 0 2 [wA, wB] [-1, -1]
    unfold F10_B2
    rw [show decide ((2 : Int) < 3) = true from rfl, cond_true]
    refine ⟨by decide, wC, rfl, trivial, ?_⟩
    rw [aw_o3]
    exact hW
  | 3, _ =>
    clear hW
    show F10_B2 K W 0 [wA, wB, wC] 3 3 0 2 [wA, wB, wC] [-1, -1, -1]
    unfold F10_B2
    rw [show decide ((3 : Int) < 3) = false from rfl, cond_false]
    simp only [aw_p1, aw_p2, aw_p3, aw_k, aw_p4]
    refine ⟨trivial, trivial, trivial, trivial, trivial, ?_⟩
    rw [show (!decide ((([(⟨false, 0, wA⟩ : Frm), ⟨false, 1, wB⟩].length : Nat) : Int) = 2)) = false from rfl, cond_false]
    rw [show (!decide ((([(⟨false, 2, wC⟩ : Frm)].length : Nat) : Int) = 1)) = false from rfl]
    unfold F10_J5
    rw [cond_false]
    refine ⟨by decide, ⟨false, 1, wB⟩, rfl, trivial, by decide, ⟨false, 0, wA⟩, rfl, trivial, ?_⟩
    simp only [aw_a1, aw_a2]
    rw [decide_true, cond_true, cond_true, cond_true, cond_true]
    rw [show decide ((([] : List Frm).length : Int) = 0) = true from rfl, cond_true]
    rw [show decide ((([(⟨false, 0, wA⟩ : Frm), ⟨false, 1, wB⟩].length : Nat) : Int) = 2) = true from rfl, cond_true]
    refine ⟨by decide, ⟨false, 2, wC⟩, rfl, ?_⟩
    dsimp only
    rw [show decide ((2 : Int) = 2) = true from rfl, cond_true]
    rw [show decide (((([] : List ByteArray).length : Nat) : Int) = 0) = true from rfl, cond_true]
    refine ⟨(by decide : 2 ≤ 4294967296), ?_⟩
    rw [cond_true]
    exact h
def sp10 : Sp := ⟨S10, L10, fun _ => True, fun _ => .bool true, fun _ => none⟩
theorem sp10_ok : sp10.Ok Try.prog 10 true :=
  ⟨fun _ _ X _ h => F10_ok _ _ X (F10_is h), fun _ _ _ => rfl, fun _ => rfl, fun _ _ => ⟨rfl, rfl⟩⟩
end Go.Proofs.Ytofjpelbjehddaa
