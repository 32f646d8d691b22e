/-
  Link: what its functions yield, in plain terms, 6.
-/
import Derived.Test.YthjikjhddddplaaFE
namespace Go.Proofs.Ythjikjhddddplaa
set_option linter.unusedVariables false
set_option linter.unusedSimpArgs false
open Go.RowKit

theorem F14_is {now : Int} {fl : List Flt} {ft : List Int} {K : Kn} (h : K (.int .i64 (Lnk.err ⟨now, fl, ft⟩)) []) : F14 (now, fl, ft, ()) K := by
  unfold F14
  dsimp only [Lf.ty, prodL]
  by_cases h1 : now < 0
  · rw [decide_eq_true h1, cond_true, cond_true]
    rwa [show Lnk.err ⟨now, fl, ft⟩ = 2 by unfold Lnk.err; rw [if_pos (.inl h1)]] at h
  rw [decide_eq_false h1, cond_false]
  by_cases h2 : 1099511627776 < now
  · rw [decide_eq_true h2, cond_true]
    rwa [show Lnk.err ⟨now, fl, ft⟩ = 2 by unfold Lnk.err; rw [if_pos (.inr h2)]] at h
  rw [decide_eq_false h2, cond_false]
  by_cases h3 : 1000 < fl.length
  · rw [show decide (1000 < (fl.length : Int)) = true by simp; omega, cond_true]
    rwa [show Lnk.err ⟨now, fl, ft⟩ = 17 by unfold Lnk.err; dsimp only; rw [if_neg (by omega), if_pos h3]] at h
  rw [show decide (1000 < (fl.length : Int)) = false by simp; omega, cond_false]
  rw [err_eq h1 h2 h3] at h
  refine LoopW.count fl.length (fun n => (fl, (fl.length : Int), (n : Int), now, fl, ft, ())) (fun n => ∀ f ∈ fl.take n, fltErr now f = 0) (fun n hn hp W hW => ?_) (by simp)
  dsimp only
  by_cases hlt : n < fl.length
  · rw [show decide ((n : Int) < (fl.length : Int)) = true by simp; omega, cond_true]
    refine At_of hlt ⟨trivial, ?_⟩
    have bad : fltErr now fl[n] ≠ 0 → K (.int .i64 (fltErr now fl[n])) [] := fun he => by
      have : fltsErr now fl = fltErr now fl[n] := by
        rw [fltsErr_take hp, List.drop_eq_getElem_cons hlt]
        simp only [fltsErr, ne_eq, he, not_false_iff, if_true]
      rwa [this, if_pos he] at h
    have good : fltErr now fl[n] = 0 → W (fl, (fl.length : Int), IntKind.i64.wrap ((n : Int) + 1), now, fl, ft, ()) := fun he => by
      rw [wrapS hlt (by omega)]
      refine hW hlt fun x hx => ?_
      rw [take_snoc hlt] at hx
      rcases List.mem_append.1 hx with h4 | h4
      · exact hp x h4
      · simp at h4; subst h4; exact he
    show bif !decide (pktErr fl[n].pkt = 0) then K (.int .i64 (pktErr fl[n].pkt)) [] else _
    by_cases hk : pktErr fl[n].pkt = 0
    · rw [decide_eq_true hk, Bool.not_true, cond_false]
      have hf : fltErr now fl[n] = if fl[n].due ≤ now ∨ fl[n].due > now + 9 then 2 else 0 := by
        unfold fltErr; rw [if_neg (by simp [hk])]
      by_cases hd : fl[n].due ≤ now
      · rw [decide_eq_true hd, cond_true, cond_true]
        rw [hf, if_pos (.inl hd)] at bad
        exact bad (by decide)
      · rw [decide_eq_false hd, cond_false, wrap64 (by omega) (by omega)]
        by_cases hd2 : now + 9 < fl[n].due
        · rw [decide_eq_true hd2, cond_true]
          rw [hf, if_pos (.inr hd2)] at bad
          exact bad (by decide)
        · rw [decide_eq_false hd2, cond_false]
          exact good (by rw [hf, if_neg (by omega)])
    · rw [decide_eq_false hk, Bool.not_false, cond_true]
      have hf : fltErr now fl[n] = pktErr fl[n].pkt := by unfold fltErr; rw [if_pos hk]
      rw [← hf]
      exact bad (by rw [hf]; exact hk)
  · rw [show decide ((n : Int) < (fl.length : Int)) = false by simp; omega, cond_false]
    have h0 : fltsErr now fl = 0 := by rw [fltsErr_take hp, List.drop_of_length_le (by omega)]; rfl
    rw [h0, if_neg (by simp)] at h
    by_cases h5 : 1000 < ft.length
    · rw [show decide (1000 < (ft.length : Int)) = true by simp; omega, cond_true]
      rwa [if_pos h5] at h
    rw [show decide (1000 < (ft.length : Int)) = false by simp; omega, cond_false]
    rw [if_neg (by omega)] at h
    refine ⟨by show ft.length ≤ 4294967296; omega, ?_⟩
    cases ha : anyNeg ft with
    | true => rw [ha] at h; exact h
    | false => rw [ha] at h; exact h
theorem sp14_ok : sp14.Ok Try.prog 14 true :=
  ⟨fun _ _ X _ h => F14_ok _ _ X (F14_is h), fun _ _ _ => rfl, fun _ => rfl, fun _ _ => ⟨rfl, rfl⟩⟩

theorem F16_is {now : Int} {fl : List Flt} {ft : List Int} {now' : Int} {fl' : List Flt} {ft' : List Int} {K : Kn} (hr : fl.length ≤ 4294967296 ∧ ft.length ≤ 4294967296) (h : K (.bool (decide ((⟨now, fl, ft⟩ : Lnk) = ⟨now', fl', ft'⟩))) []) : F16 (now, fl, ft, now', fl', ft', ()) K := by
  unfold F16
  dsimp only [Lf.ty, prodL]
  have bad : ¬ (now = now' ∧ fl = fl' ∧ ft = ft') → K (.bool false) [] := fun hb => by
    rwa [decide_eq_false (by simpa using hb)] at h
  by_cases h1 : now = now'
  case neg =>
    rw [decide_eq_false h1, Bool.not_false, cond_true, cond_true]
    exact bad fun h => h1 h.1
  rw [decide_eq_true h1, Bool.not_true, cond_false]
  by_cases h2 : fl.length = fl'.length
  case neg =>
    rw [show (!decide ((fl.length : Int) = (fl'.length : Int))) = true by simp; omega, cond_true, cond_true]
    exact bad fun h => h2 (by rw [h.2.1])
  rw [show (!decide ((fl.length : Int) = (fl'.length : Int))) = false by simp; omega, cond_false]
  by_cases h3 : ft.length = ft'.length
  case neg =>
    rw [show (!decide ((ft.length : Int) = (ft'.length : Int))) = true by simp; omega, cond_true]
    exact bad fun h => h3 (by rw [h.2.2])
  rw [show (!decide ((ft.length : Int) = (ft'.length : Int))) = false by simp; omega, cond_false]
  refine LoopW.count fl.length (fun n => ((n : Int), now, fl, ft, now', fl', ft', ())) (fun n => fl.take n = fl'.take n) (fun n hn hp W hW => ?_) (by simp)
  dsimp only
  by_cases hlt : n < fl.length
  · rw [show decide ((n : Int) < (fl.length : Int)) = true by simp; omega, cond_true]
    refine At_of hlt (At_of (by omega) ?_)
    have hc : (!(decide (fl[n].pkt.to = (fl'[n]'(by omega)).pkt.to) && (decide (fl[n].pkt.data = (fl'[n]'(by omega)).pkt.data) && (decide (fl[n].due = (fl'[n]'(by omega)).due) && true)))) = !decide (fl[n] = fl'[n]'(by omega)) := by
      congr 1
      generalize fl[n] = x
      generalize fl'[n]'(by omega) = y
      obtain ⟨⟨a, b⟩, c⟩ := x
      obtain ⟨⟨a', b'⟩, c'⟩ := y
      rw [Bool.eq_iff_iff]
      simp [and_assoc]
    rw [hc]
    by_cases he : fl[n] = fl'[n]'(by omega)
    · rw [decide_eq_true he, Bool.not_true, cond_false, wrapS hlt hr.1]
      exact hW hlt (by rw [take_snoc hlt, take_snoc (by omega), hp, he])
    · rw [decide_eq_false he, Bool.not_false, cond_true]
      exact bad fun h => he (by simp [h.2.1])
  · rw [show decide ((n : Int) < (fl.length : Int)) = false by simp; omega, cond_false]
    rw [List.take_of_length_le (by omega), List.take_of_length_le (by omega)] at hp
    refine LoopW.count ft.length (fun n => ((n : Int), now, fl, ft, now', fl', ft', ())) (fun n => ft.take n = ft'.take n) (fun n hn hp' W hW => ?_) (by simp)
    dsimp only
    by_cases hlt : n < ft.length
    · rw [show decide ((n : Int) < (ft.length : Int)) = true by simp; omega, cond_true]
      refine At_of hlt (At_of (by omega) ?_)
      by_cases he : ft[n] = ft'[n]'(by omega)
      · rw [decide_eq_true he, Bool.not_true, cond_false, wrapS hlt hr.2]
        exact hW hlt (by rw [take_snoc hlt, take_snoc (by omega), hp', he])
      · rw [decide_eq_false he, Bool.not_false, cond_true]
        exact bad fun h => he (by simp [h.2.2])
    · rw [show decide ((n : Int) < (ft.length : Int)) = false by simp; omega, cond_false]
      rw [List.take_of_length_le (by omega), List.take_of_length_le (by omega)] at hp'
      rwa [decide_eq_true (by simp [h1, hp, hp'])] at h
def sp16 : Sp := ⟨S16, L16, fun g => g.2.1.length ≤ 4294967296 ∧ g.2.2.1.length ≤ 4294967296, fun g => .bool (decide ((⟨g.1, g.2.1, g.2.2.1⟩ : Lnk) = ⟨g.2.2.2.1, g.2.2.2.2.1, g.2.2.2.2.2.1⟩)), fun _ => none⟩
theorem sp16_ok : sp16.Ok Try.prog 16 true :=
  ⟨fun _ _ X hp h => F16_ok _ _ X (F16_is hp h), fun _ _ _ => rfl, fun _ => rfl, fun _ _ => ⟨rfl, rfl⟩⟩
end Go.Proofs.Ythjikjhddddplaa
