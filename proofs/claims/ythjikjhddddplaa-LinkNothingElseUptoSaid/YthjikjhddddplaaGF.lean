/-
  Link: several packets are sent.
-/
import Derived.Test.YthjikjhddddplaaGE
namespace Go.Proofs.Ythjikjhddddplaa
set_option linter.unusedVariables false
set_option linter.unusedSimpArgs false
open Go.RowKit

/-- What several sends yield. -/
def sentOf (l : Lnk) : List Pkt → Lnk × Bool
  | [] => (l, true)
  | p :: r => if (sendOf l p).2 ≠ 0 then (l, false) else sentOf (sendOf l p).1 r
def sentT (r : Lnk × Bool) : T := .tu [r.1.t, .bool r.2]
theorem send_fates {l : Lnk} {p : Pkt} (h : ∀ f ∈ l.fates, fits64 f) : ∀ f ∈ (sendOf l p).1.fates, fits64 f := by
  unfold sendOf
  (repeat' split) <;> first | (simp [noLnk]; done) | exact fun f hf => h f (List.mem_of_mem_tail hf)
theorem F23_is {ps : List Pkt} {K : Kn} {now : Int} {fl : List Flt} {ft : List Int} (hr : ps.length ≤ 4294967296) (hft : ∀ f ∈ ft, fits64 f) (h : K (sentT (sentOf ⟨now, fl, ft⟩ ps)) []) : F23 (now, fl, ft, ps, ()) K := by
  unfold F23
  dsimp only [Lf.ty, prodL]
  refine LoopW.of (fun g => ∃ (n : Nat) (l : Lnk), n ≤ ps.length ∧ g = (ps, (ps.length : Int), (n : Int), l.now, l.flights, l.fates, g.2.2.2.2.2.2.1, ()) ∧ (∀ f ∈ l.fates, fits64 f) ∧ K (sentT (sentOf l (ps.drop n))) []) (fun g => ps.length - g.2.2.1.toNat) ?_ ⟨0, ⟨now, fl, ft⟩, Nat.zero_le _, rfl, hft, h⟩
  rintro g ⟨n, l, hn, hg, hf, hk⟩ W hW
  rw [hg]
  dsimp only
  by_cases hlt : n < ps.length
  · rw [show decide ((n : Int) < (ps.length : Int)) = true by simp; omega, cond_true]
    refine At_of hlt ⟨hf, ?_⟩
    rw [List.drop_eq_getElem_cons hlt] at hk
    by_cases he : (sendOf l ps[n]).2 = 0
    · rw [show decide ((sendOf ⟨l.now, l.flights, l.fates⟩ ⟨ps[n].to, ps[n].data⟩).2 = 0) = true from decide_eq_true he, Bool.not_true, cond_false, wrapS hlt hr]
      refine hW _ ⟨n + 1, (sendOf l ps[n]).1, hlt, rfl, send_fates hf, ?_⟩ ?_
      · rwa [sentOf, if_neg (by simp [he])] at hk
      · rw [hg]; simp only [Int.toNat_natCast]; omega
    · rw [show decide ((sendOf ⟨l.now, l.flights, l.fates⟩ ⟨ps[n].to, ps[n].data⟩).2 = 0) = false from decide_eq_false he, Bool.not_false, cond_true]
      rw [sentOf, if_pos he] at hk
      exact hk
  · rw [show decide ((n : Int) < (ps.length : Int)) = false by simp; omega, cond_false]
    rw [List.drop_of_length_le (by omega)] at hk
    exact hk
def sp23 : Sp := ⟨S23, L23, fun g => g.2.2.2.1.length ≤ 4294967296 ∧ ∀ f ∈ g.2.2.1, fits64 f, fun g => sentT (sentOf ⟨g.1, g.2.1, g.2.2.1⟩ g.2.2.2.1), fun _ => none⟩
theorem sp23_ok : sp23.Ok Try.prog 23 false :=
  ⟨fun _ _ X hp h => F23_ok _ _ X (F23_is hp.1 hp.2 h), fun _ _ _ => rfl, fun _ => rfl, fun h => by cases h⟩
end Go.Proofs.Ythjikjhddddplaa
