/-
  Link: what its functions yield, in plain terms, 10: sent, awake.
-/
import Derived.Test.YthjikjhddddplaaFI
namespace Go.Proofs.Ythjikjhddddplaa
set_option linter.unusedVariables false
set_option linter.unusedSimpArgs false
open Go.RowKit

def pA : ByteArray := ⟨#[97]⟩
def pB : ByteArray := ⟨#[98]⟩
theorem aw1 : sendOf ⟨0, [], [3, 0]⟩ ⟨1, ⟨#[97]⟩⟩ = (⟨0, [⟨⟨1, ⟨#[97]⟩⟩, 1⟩, ⟨⟨1, ⟨#[97]⟩⟩, 2⟩], [0]⟩, 0) := by kernel_rfl
theorem aw2 : sendOf ⟨0, [⟨⟨1, ⟨#[97]⟩⟩, 1⟩, ⟨⟨1, ⟨#[97]⟩⟩, 2⟩], [0]⟩ ⟨0, ⟨#[98]⟩⟩ = (⟨0, [⟨⟨1, ⟨#[97]⟩⟩, 1⟩, ⟨⟨1, ⟨#[97]⟩⟩, 2⟩], []⟩, 0) := by kernel_rfl
theorem aw3 : sendOf ⟨0, [⟨⟨1, ⟨#[97]⟩⟩, 1⟩, ⟨⟨1, ⟨#[97]⟩⟩, 2⟩], []⟩ ⟨0, ⟨#[99]⟩⟩ = (⟨0, [⟨⟨1, ⟨#[97]⟩⟩, 1⟩, ⟨⟨1, ⟨#[97]⟩⟩, 2⟩, ⟨⟨0, ⟨#[99]⟩⟩, 1⟩], []⟩, 0) := by kernel_rfl
theorem aw4 : stepOf ⟨0, [⟨⟨1, ⟨#[97]⟩⟩, 1⟩, ⟨⟨1, ⟨#[97]⟩⟩, 2⟩, ⟨⟨0, ⟨#[99]⟩⟩, 1⟩], []⟩ = (⟨1, [⟨⟨1, ⟨#[97]⟩⟩, 2⟩], []⟩, [⟨1, ⟨#[97]⟩⟩, ⟨0, ⟨#[99]⟩⟩], 0) := by kernel_rfl
theorem aw5 : stepOf ⟨1, [⟨⟨1, ⟨#[97]⟩⟩, 2⟩], []⟩ = (⟨2, [], []⟩, [⟨1, ⟨#[97]⟩⟩], 0) := by kernel_rfl
theorem F11_is {K : Kn} (h : K (.bool true) []) : F11 () K := by
  unfold F11
  simp only [aw1, aw2, aw3, aw4, aw5, decide_true, cond_true]
  have f1 : ∀ (n : Int) (a : List Flt) (to : Int) (d : ByteArray), sp12.pre (n, a, [], to, d, ()) := fun _ _ _ _ => by intro f hf; simp at hf
  refine ⟨?_, ?_, f1 _ _ _ _, trivial, trivial, by show (2 : Nat) ≤ _; decide, ?_⟩
  · intro f hf; simp at hf; rcases hf with rfl | rfl <;> exact ⟨by decide, by decide⟩
  · intro f hf; simp at hf; subst hf; exact ⟨by decide, by decide⟩
  refine ⟨by show (1 : Nat) ≤ _; decide, trivial, ?_⟩
  exact h
def sp11 : Sp := ⟨S11, L11, fun _ => True, fun _ => .bool true, fun _ => none⟩
theorem sp11_ok : sp11.Ok Try.prog 11 true :=
  ⟨fun _ _ X _ h => F11_ok _ _ X (F11_is h), fun _ _ _ => rfl, fun _ => rfl, fun _ _ => ⟨rfl, rfl⟩⟩
end Go.Proofs.Ythjikjhddddplaa
