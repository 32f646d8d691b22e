/-
  Link: what its functions yield, in plain terms, 8.
-/
import Derived.Test.YthjikjhddddplaaFH1
namespace Go.Proofs.Ythjikjhddddplaa
set_option linter.unusedVariables false
set_option linter.unusedSimpArgs false
open Go.RowKit

theorem F12_is {now : Int} {fl : List Flt} {ft : List Int} {to : Int} {data : ByteArray} {K : Kn} (hft : ∀ f ∈ ft, fits64 f) (h : K (sendT (sendOf ⟨now, fl, ft⟩ ⟨to, data⟩)) []) : F12 (now, fl, ft, to, data, ()) (wkK K) := by
  unfold F12
  dsimp only [Lf.ty, prodL]
  refine ⟨trivial, ?_⟩
  unfold sendOf at h
  by_cases he : Lnk.err ⟨now, fl, ft⟩ = 0
  case neg =>
    rw [decide_eq_false he, Bool.not_false, cond_true]
    rw [if_pos he] at h
    exact wk_send h
  rw [decide_eq_true he, Bool.not_true, cond_false]
  rw [if_neg (by simp [he])] at h
  obtain ⟨r1, r2, r3, r4, r5⟩ := err_room he
  dsimp only at r1 r2 r3 r4 r5 h
  refine ⟨trivial, ?_⟩
  by_cases hp : pktErr ⟨to, data⟩ = 0
  case neg =>
    rw [decide_eq_false hp, Bool.not_false, cond_true]
    rw [if_pos hp] at h
    exact wk_send h
  rw [decide_eq_true hp, Bool.not_true, cond_false]
  rw [if_neg (by simp [hp])] at h
  have loop : ∀ (f : Int) (ft' : List Int), fits64 f → 0 ≤ f → fateOf ft = f → ft.tail = ft' → sp27.pre (fl, ()) ∧ sp28.pre (f, ()) ∧ LoopW (γ := prodL [.sl .i64, .int .i64, .int .i64, .int .i64, .sl .i64, .int .i64, .str, .int .i64, .sl .flt]) (fun W4 g3 =>
      bif decide (g3.2.2.1 < g3.2.1) then (
        At g3.1 g3.2.2.1 fun u5 =>
      Room (g3.2.2.2.2.2.2.2.2.1.length + [(⟨⟨g3.2.2.2.2.2.1, g3.2.2.2.2.2.2.1⟩, (IntKind.i64.wrap (g3.2.2.2.1 + u5))⟩ : Flt)].length) 32 (
      W4 (g3.1, g3.2.1, IntKind.i64.wrap (g3.2.2.1 + 1), g3.2.2.2.1, g3.2.2.2.2.1, g3.2.2.2.2.2.1, g3.2.2.2.2.2.2.1, g3.2.2.2.2.2.2.2.1, g3.2.2.2.2.2.2.2.2.1 ++ [(⟨⟨g3.2.2.2.2.2.1, g3.2.2.2.2.2.2.1⟩, (IntKind.i64.wrap (g3.2.2.2.1 + u5))⟩ : Flt)], ())))
      else (
        bif decide (1000 < (g3.2.2.2.2.2.2.2.2.1.length : Int)) then (
      wkK K (.tu [.ag [.int .i64 0, .nil, .nil], .int .i64 17]) [])
    else (
      wkK K (.tu [.ag [.int .i64 g3.2.2.2.1, .sl false .flt g3.2.2.2.2.2.2.2.2.1, .sl false .i64 g3.2.2.2.2.1], .int .i64 0]) []))) (delaysOf f, (((delaysOf f).length : Nat) : Int), 0, now, ft', to, data, 0, fl, ()) := by
    intro f ft' hf hf0 e1 e2
    refine ⟨by show fl.length ≤ 4294967296; omega, ⟨hf, hf0⟩, ?_⟩
    obtain ⟨d1, _⟩ := delays_le f
    have d2 := delays_nn hf0
    refine LoopW.countTo (delaysOf f).length (fun n => (delaysOf f, (((delaysOf f).length : Nat) : Int), (n : Int), now, ft', to, data, 0, fl ++ flightsOf now ⟨to, data⟩ ((delaysOf f).take n), ())) (fun _ => True) (by simp [flightsOf]) (fun n hn _ W hW => ?_) trivial
    dsimp only
    have hlen : (fl ++ flightsOf now ⟨to, data⟩ ((delaysOf f).take n)).length ≤ 1002 := by simp [flightsOf]; omega
    by_cases hlt : n < (delaysOf f).length
    · rw [show decide ((n : Int) < ((delaysOf f).length : Int)) = true by simp; omega, cond_true]
      refine At_of hlt ⟨by simp only [List.length_singleton]; omega, ?_⟩
      have hb := d2 _ (List.getElem_mem hlt)
      rw [wrapS hlt (by omega), wrap64 (by omega) (by omega)]
      have := hW hlt trivial
      rw [take_snoc hlt] at this
      simp only [flightsOf, List.map_append, List.map_cons, List.map_nil, ← List.append_assoc] at this ⊢
      exact this
    · rw [show decide ((n : Int) < ((delaysOf f).length : Int)) = false by simp; omega, cond_false]
      rw [List.take_of_length_le (by omega)]
      rw [e1] at h
      by_cases h1000 : 1000 < (fl ++ flightsOf now ⟨to, data⟩ (delaysOf f)).length
      · rw [show decide (1000 < ((fl ++ flightsOf now ⟨to, data⟩ (delaysOf f)).length : Int)) = true by simp only [decide_eq_true_eq]; omega, cond_true]
        rw [if_pos h1000] at h
        exact wk_send h
      · rw [show decide (1000 < ((fl ++ flightsOf now ⟨to, data⟩ (delaysOf f)).length : Int)) = false by simp only [decide_eq_false_iff_not]; omega, cond_false]
        rw [if_neg h1000, e2] at h
        exact wkK.same h
  cases ft with
  | nil =>
    rw [show decide (0 < (([] : List Int).length : Int)) = false by decide, cond_false]
    exact loop 1 [] ⟨by decide, by decide⟩ (by decide) rfl rfl
  | cons f r =>
    rw [show decide (0 < ((f :: r).length : Int)) = true from decide_eq_true (by simp only [List.length_cons]; omega), cond_true]
    refine ⟨by decide, f, rfl, by decide, by simp only [List.length_cons]; omega, ?_⟩
    exact loop f r (hft f (by simp)) (r5 f (by simp)) rfl rfl
def sp12 : Sp := ⟨S12, L12, fun g => ∀ f ∈ g.2.2.1, fits64 f, fun g => sendT (sendOf ⟨g.1, g.2.1, g.2.2.1⟩ ⟨g.2.2.2.1, g.2.2.2.2.1⟩), fun _ => none⟩
theorem sp12_ok : sp12.Ok Try.prog 12 false :=
  ⟨fun _ _ X hp h => FCalls.weak (F12_ok _ _ X (F12_is hp h)), fun _ _ _ => rfl, fun _ => rfl, fun h => by cases h⟩

/-- What a step yields. -/
def stepOf (l : Lnk) : Lnk × List Pkt × Int :=
  if l.err ≠ 0 then (noLnk, [], 1) else if l.now = 1099511627776 then (noLnk, [], 4) else
  (⟨l.now + 1, l.flights.filter (fun f => !decide (f.due ≤ l.now + 1)), l.fates⟩, (l.flights.filter (fun f => decide (f.due ≤ l.now + 1))).map (·.pkt), 0)
def stepT (r : Lnk × List Pkt × Int) : T := .tu [r.1.t, .sl false .pkt r.2.1, .int .i64 r.2.2]
theorem wk_step {K : Kn} {e : Int} (h : K (stepT (noLnk, [], e)) []) : wkK K (.tu [.ag [.int .i64 0, .nil, .nil], .nil, .int .i64 e]) [] :=
  ⟨_, .tu (.cons (.ag (.cons (.refl _) (.cons (.nil .flt) (.cons (.nil .i64) .nil)))) (.cons (.nil .pkt) (.cons (.refl _) .nil))), h⟩
theorem F20_is {now : Int} {fl : List Flt} {ft : List Int} {K : Kn} (h : K (stepT (stepOf ⟨now, fl, ft⟩)) []) : F20 (now, fl, ft, ()) (wkK K) := by
  unfold F20
  dsimp only [Lf.ty, prodL]
  refine ⟨trivial, ?_⟩
  unfold stepOf at h
  by_cases he : Lnk.err ⟨now, fl, ft⟩ = 0
  case neg =>
    rw [decide_eq_false he, Bool.not_false, cond_true]
    rw [if_pos he] at h
    exact wk_step h
  rw [decide_eq_true he, Bool.not_true, cond_false]
  rw [if_neg (by simp [he])] at h
  obtain ⟨r1, r2, r3, r4, r5⟩ := err_room he
  dsimp only at r1 r2 r3 r4 r5 h
  by_cases hm : now = 1099511627776
  · rw [decide_eq_true hm, cond_true]
    rw [if_pos hm] at h
    exact wk_step h
  rw [decide_eq_false hm, cond_false]
  rw [if_neg hm] at h
  rw [wrap64 (n := now + 1) (by omega) (by omega)]
  refine LoopW.countTo fl.length (fun n => ((n : Int), now, fl, ft, 0, now + 1, ft, ((fl.take n).filter (fun f => decide (f.due ≤ now + 1))).map (·.pkt), (fl.take n).filter (fun f => !decide (f.due ≤ now + 1)), ())) (fun _ => True) (by simp) (fun n hn _ W hW => ?_) trivial
  dsimp only
  by_cases hlt : n < fl.length
  · rw [show decide ((n : Int) < (fl.length : Int)) = true by simp; omega, cond_true]
    have hW := hW hlt trivial
    rw [take_snoc hlt, List.filter_append, List.filter_append, List.map_append] at hW
    have l1 : (((fl.take n).filter (fun f => decide (f.due ≤ now + 1))).map (·.pkt)).length ≤ 1000 := by
      rw [List.length_map]; exact Nat.le_trans (List.length_filter_le _ _) (by simp; omega)
    have l2 : ((fl.take n).filter (fun f => !decide (f.due ≤ now + 1))).length ≤ 1000 := Nat.le_trans (List.length_filter_le _ _) (by simp; omega)
    refine At_of hlt ?_
    by_cases hd : fl[n].due ≤ now + 1
    · rw [decide_eq_true hd, cond_true]
      refine At_of hlt ⟨by simp only [List.length_singleton]; omega, ?_⟩
      rw [wrapS hlt (by omega)]
      simpa [List.filter_cons, hd] using hW
    · rw [decide_eq_false hd, cond_false]
      refine At_of hlt ⟨Nat.le_trans (Nat.mul_le_mul_right 32 (Nat.succ_le_succ l2)) (by decide), ?_⟩
      rw [wrapS hlt (by omega)]
      simpa [List.filter_cons, hd] using hW
  · rw [show decide ((n : Int) < (fl.length : Int)) = false by simp; omega, cond_false]
    rw [List.take_of_length_le (by omega)]
    exact wkK.same h
def sp20 : Sp := ⟨S20, L20, fun _ => True, fun g => stepT (stepOf ⟨g.1, g.2.1, g.2.2.1⟩), fun _ => none⟩
theorem sp20_ok : sp20.Ok Try.prog 20 false :=
  ⟨fun _ _ X _ h => FCalls.weak (F20_ok _ _ X (F20_is h)), fun _ _ _ => rfl, fun _ => rfl, fun h => by cases h⟩
end Go.Proofs.Ythjikjhddddplaa
