/-
  Link: what its functions yield, in plain terms, 5.
-/
import Derived.Test.YthjikjhddddplaaFD
namespace Go.Proofs.Ythjikjhddddplaa
set_option linter.unusedVariables false
set_option linter.unusedSimpArgs false
open Go.RowKit

def sp29 : Sp := ⟨S29, L29, fun g => g.1.length ≤ 4294967296, fun g => .bool (anyNeg g.1), fun _ => none⟩
theorem sp29_ok : sp29.Ok Try.prog 29 true :=
  ⟨fun g _ X hp h => F29_ok _ _ X ⟨hp, by rw [negIx_any]; exact h⟩, fun _ _ _ => rfl, fun _ => rfl, fun _ _ => ⟨rfl, rfl⟩⟩
theorem fltsErr_take {now : Int} : ∀ {fl : List Flt} {n : Nat}, (∀ f ∈ fl.take n, fltErr now f = 0) → fltsErr now fl = fltsErr now (fl.drop n)
  | [], n, _ => by simp
  | f :: r, 0, _ => rfl
  | f :: r, n + 1, h => by
    have h0 : fltErr now f = 0 := h f (by simp)
    simp only [fltsErr, h0, ne_eq, not_true, if_false, List.drop_succ_cons]
    exact fltsErr_take fun x hx => h x (by simp [hx])
/-- The last part of a check: the fates. -/
theorem err_eq {now : Int} {fl : List Flt} {ft : List Int} (h1 : ¬ now < 0) (h2 : ¬ 1099511627776 < now) (h3 : ¬ 1000 < fl.length) : Lnk.err ⟨now, fl, ft⟩ = if fltsErr now fl ≠ 0 then fltsErr now fl else if ft.length > 1000 then 17 else if anyNeg ft = true then 2 else 0 := by
  unfold Lnk.err
  dsimp only
  rw [if_neg (by omega), if_neg (by omega)]
theorem F15_is {now : Int} {fl : List Flt} {ft : List Int} {K : Kn} (h : K (.int .i64 (Lnk.err ⟨now, fl, ft⟩)) []) : F15 (now, fl, ft, ()) K := by
  unfold F15
  dsimp only [Lf.ty, prodL]
  by_cases h1 : now < 0
  · rw [decide_eq_true h1, cond_true, cond_true]
    rwa [show Lnk.err ⟨now, fl, ft⟩ = 2 by unfold Lnk.err; rw [if_pos (.inl h1)]] at h
  rw [decide_eq_false h1, cond_false]
  by_cases h2 : 1099511627776 < now
  · rw [decide_eq_true h2, cond_true]
    rwa [show Lnk.err ⟨now, fl, ft⟩ = 2 by unfold Lnk.err; rw [if_pos (.inr h2)]] at h
  rw [decide_eq_false h2, cond_false]
  by_cases h3 : 1000 < fl.length
  · rw [show decide (1000 < (fl.length : Int)) = true by simp; omega, cond_true]
    rwa [show Lnk.err ⟨now, fl, ft⟩ = 17 by unfold Lnk.err; dsimp only; rw [if_neg (by omega), if_pos h3]] at h
  rw [show decide (1000 < (fl.length : Int)) = false by simp; omega, cond_false]
  rw [err_eq h1 h2 h3] at h
  refine LoopW.count fl.length (fun n => ((n : Int), now, fl, ft, ())) (fun n => ∀ f ∈ fl.take n, fltErr now f = 0) (fun n hn hp W hW => ?_) (by simp)
  dsimp only
  by_cases hlt : n < fl.length
  · rw [show decide ((n : Int) < (fl.length : Int)) = true by simp; omega, cond_true]
    refine At_of hlt ⟨⟨by show 0 ≤ now; omega, by show now ≤ 1099511627776; omega⟩, ?_⟩
    show bif !decide (fltErr now fl[n] = 0) then K (.int .i64 (fltErr now fl[n])) [] else W (IntKind.i64.wrap ((n : Int) + 1), now, fl, ft, ())
    by_cases he : fltErr now fl[n] = 0
    · rw [decide_eq_true he, Bool.not_true, cond_false, wrapS hlt (by omega)]
      refine hW hlt fun x hx => ?_
      rw [take_snoc hlt] at hx
      rcases List.mem_append.1 hx with h4 | h4
      · exact hp x h4
      · simp at h4; subst h4; exact he
    · rw [decide_eq_false he, Bool.not_false, cond_true]
      have : fltsErr now fl = fltErr now fl[n] := by
        rw [fltsErr_take hp, List.drop_eq_getElem_cons hlt]
        simp only [fltsErr, ne_eq, he, not_false_iff, if_true]
      rwa [this, if_pos he] at h
  · rw [show decide ((n : Int) < (fl.length : Int)) = false by simp; omega, cond_false]
    have h0 : fltsErr now fl = 0 := by rw [fltsErr_take hp, List.drop_of_length_le (by omega)]; rfl
    rw [h0, if_neg (by simp)] at h
    by_cases h5 : 1000 < ft.length
    · rw [show decide (1000 < (ft.length : Int)) = true by simp; omega, cond_true]
      rwa [if_pos h5] at h
    rw [show decide (1000 < (ft.length : Int)) = false by simp; omega, cond_false]
    rw [if_neg (by omega)] at h
    refine LoopW.count ft.length (fun n => ((n : Int), now, fl, ft, ())) (fun n => ∀ x ∈ ft.take n, ¬ x < 0) (fun n hn hp W hW => ?_) (by simp)
    dsimp only
    by_cases hlt : n < ft.length
    · rw [show decide ((n : Int) < (ft.length : Int)) = true by simp; omega, cond_true]
      refine At_of hlt ?_
      by_cases hx : ft[n] < 0
      · rw [decide_eq_true hx, cond_true]
        rwa [show anyNeg ft = true by unfold anyNeg; exact decide_eq_true ⟨_, List.getElem_mem hlt, hx⟩, if_pos rfl] at h
      · rw [decide_eq_false hx, cond_false, wrapS hlt (by omega)]
        refine hW hlt fun x hx' => ?_
        rw [take_snoc hlt] at hx'
        rcases List.mem_append.1 hx' with h4 | h4
        · exact hp x h4
        · simp at h4; subst h4; exact hx
    · rw [show decide ((n : Int) < (ft.length : Int)) = false by simp; omega, cond_false]
      rw [List.take_of_length_le (by omega)] at hp
      rwa [show anyNeg ft = false by unfold anyNeg; exact decide_eq_false (by rintro ⟨x, h6, h7⟩; exact hp x h6 h7), if_neg (by simp)] at h
def sp15 : Sp := ⟨S15, L15, fun _ => True, fun g => .int .i64 (Lnk.err ⟨g.1, g.2.1, g.2.2.1⟩), fun _ => none⟩
theorem sp15_ok : sp15.Ok Try.prog 15 true :=
  ⟨fun _ _ X _ h => F15_ok _ _ X (F15_is h), fun _ _ _ => rfl, fun _ => rfl, fun _ _ => ⟨rfl, rfl⟩⟩
def sp14 : Sp := ⟨[.ag [.leaf, .leaf, .leaf]], [.int .i64, .sl .flt, .sl .i64], fun _ => True, fun g => .int .i64 (Lnk.err ⟨g.1, g.2.1, g.2.2.1⟩), fun _ => none⟩
end Go.Proofs.Ythjikjhddddplaa
