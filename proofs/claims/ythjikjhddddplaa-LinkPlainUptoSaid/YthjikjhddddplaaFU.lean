/-
  Link: what its functions yield, in plain terms, 3.
-/
import Derived.Test.YthjikjhddddplaaFB
namespace Go.Proofs.Ythjikjhddddplaa
set_option linter.unusedVariables false
set_option linter.unusedSimpArgs false
open Go.RowKit

def anyNeg (l : List Int) : Bool := decide (∃ n ∈ l, n < 0)
def negIx (l : List Int) : Int :=
  match l.findIdx? (fun n => decide (n < 0)) with
  | some i => (i : Int)
  | none => -1
theorem negIx_any (l : List Int) : decide (0 ≤ negIx l) = anyNeg l := by
  unfold negIx anyNeg
  cases h : l.findIdx? (fun n => decide (n < 0)) with
  | none =>
    have := List.findIdx?_eq_none_iff.1 h
    rw [decide_eq_decide]
    constructor
    · intro h; exact absurd h (by decide)
    · rintro ⟨n, h1, h2⟩; have := this n h1; simp at this; omega
  | some i =>
    obtain ⟨hi, h1, _⟩ := List.findIdx?_eq_some_iff_getElem.1 h
    rw [decide_eq_decide]
    exact ⟨fun _ => ⟨l[i], List.getElem_mem hi, by simpa using h1⟩, fun _ => by simp⟩
structure Lnk where
  now : Int
  flights : List Flt
  fates : List Int
  deriving DecidableEq
def fltsErr (now : Int) : List Flt → Int
  | [] => 0
  | f :: r => if fltErr now f ≠ 0 then fltErr now f else fltsErr now r
def Lnk.err (l : Lnk) : Int :=
  if l.now < 0 ∨ l.now > 1099511627776 then 2 else if l.flights.length > 1000 then 17 else
  if fltsErr l.now l.flights ≠ 0 then fltsErr l.now l.flights else if l.fates.length > 1000 then 17 else
  if anyNeg l.fates = true then 2 else 0
def sp30 : Sp := ⟨S30, L30, fun _ => True, fun g => .bool (decide (g.1 < 0)), fun _ => none⟩
theorem sp30_ok : sp30.Ok Try.prog 30 true :=
  ⟨fun _ _ X _ h => F30_ok _ _ X h, fun _ _ _ => rfl, fun _ => rfl, fun _ _ => ⟨rfl, rfl⟩⟩
end Go.Proofs.Ythjikjhddddplaa
