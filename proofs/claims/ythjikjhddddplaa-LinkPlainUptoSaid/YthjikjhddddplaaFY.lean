/-
  Link: what its functions yield, in plain terms, 7.
-/
import Derived.Test.YthjikjhddddplaaFF
namespace Go.Proofs.Ythjikjhddddplaa
set_option linter.unusedVariables false
set_option linter.unusedSimpArgs false
open Go.RowKit

theorem F27_is {l : List Flt} {K : Kn} (hr : l.length ≤ 4294967296) (h : K (.oa .flt 0 0) [some (.arr 0 .flt l)]) : F27 (l, ()) K := by
  unfold F27
  dsimp only [Lf.ty, prodL]
  have hR : Room l.length 32 (K (.oa .flt 0 0) [some (.arr 0 .flt l)]) := ⟨by omega, h⟩
  by_cases h0 : l.length = 0
  · rw [decide_eq_true h0, cond_true]
    have : l = [] := List.eq_nil_of_length_eq_zero h0
    subst this
    exact ⟨h, hR⟩
  · rw [decide_eq_false h0, cond_false]
    exact hR
def sp27 : Sp := ⟨S27, L27, fun g => g.1.length ≤ 4294967296, fun _ => .oa .flt 0 0, fun g => some (.arr 0 .flt g.1)⟩
theorem sp27_ok : sp27.Ok Try.prog 27 false :=
  ⟨fun _ _ X hp h => F27_ok _ _ X (F27_is hp h), fun _ _ _ => rfl, fun _ => rfl, fun h => by cases h⟩

def Lnk.t (l : Lnk) : T := .ag [.int .i64 l.now, .sl false .flt l.flights, .sl false .i64 l.fates]
def noLnk : Lnk := ⟨0, [], []⟩
def fateOf (l : List Int) : Int :=
  match l with
  | [] => 1
  | f :: _ => f
/-- What the packets of a send become. -/
def flightsOf (now : Int) (p : Pkt) (ds : List Int) : List Flt := ds.map fun d => ⟨p, now + d⟩
def sendOf (l : Lnk) (p : Pkt) : Lnk × Int :=
  if l.err ≠ 0 then (noLnk, 1) else if pktErr p ≠ 0 then (noLnk, pktErr p) else
  if (l.flights ++ flightsOf l.now p (delaysOf (fateOf l.fates))).length > 1000 then (noLnk, 17) else
  (⟨l.now, l.flights ++ flightsOf l.now p (delaysOf (fateOf l.fates)), l.fates.tail⟩, 0)
def sendT (r : Lnk × Int) : T := .tu [r.1.t, .int .i64 r.2]
theorem wk_send {K : Kn} {e : Int} (h : K (sendT (noLnk, e)) []) : wkK K (.tu [.ag [.int .i64 0, .nil, .nil], .int .i64 e]) [] :=
  ⟨_, .tu (.cons (.ag (.cons (.refl _) (.cons (.nil .flt) (.cons (.nil .i64) .nil)))) (.cons (.refl _) .nil)), h⟩
theorem err_room {l : Lnk} (h : l.err = 0) : l.flights.length ≤ 1000 ∧ l.fates.length ≤ 1000 ∧ 0 ≤ l.now ∧ l.now ≤ 1099511627776 ∧ ∀ f ∈ l.fates, 0 ≤ f := by
  unfold Lnk.err at h
  (repeat' split at h) <;> first | omega | skip
  refine ⟨by omega, by omega, by omega, by omega, fun f hf => ?_⟩
  rename_i hn
  have : anyNeg l.fates = false := by simpa using hn
  unfold anyNeg at this
  have := of_decide_eq_false this
  exact Int.not_lt.1 fun h0 => this ⟨f, hf, h0⟩
theorem delays_le (f : Int) : (delaysOf f).length ≤ 2 ∧ ∀ d ∈ delaysOf f, -10 ≤ d ∧ d ≤ 10 := by
  have := tmod8 (f.tdiv 4)
  unfold delaysOf
  (repeat' split) <;> simp <;> omega
theorem delays_nn {f : Int} (hf : 0 ≤ f) : ∀ d ∈ delaysOf f, 1 ≤ d ∧ d ≤ 9 := by
  have h : 0 ≤ (f.tdiv 4).tmod 8 ∧ (f.tdiv 4).tmod 8 < 8 := by
    rw [Int.tdiv_eq_ediv_of_nonneg hf, Int.tmod_eq_emod_of_nonneg (by omega)]; omega
  unfold delaysOf
  (repeat' split) <;> simp <;> omega
theorem F13_is {now : Int} {fl : List Flt} {ft : List Int} {to : Int} {data : ByteArray} {K : Kn} (hft : ∀ f ∈ ft, fits64 f) (h : K (sendT (sendOf ⟨now, fl, ft⟩ ⟨to, data⟩)) []) : F13 (now, fl, ft, to, data, ()) (wkK K) := by
  unfold F13
  dsimp only [Lf.ty, prodL]
  refine ⟨trivial, ?_⟩
  unfold sendOf at h
  by_cases he : Lnk.err ⟨now, fl, ft⟩ = 0
  case neg =>
    rw [decide_eq_false he, Bool.not_false, cond_true]
    rw [if_pos he] at h
    exact wk_send h
  rw [decide_eq_true he, Bool.not_true, cond_false]
  rw [if_neg (by simp [he])] at h
  obtain ⟨r1, r2, r3, r4, r5⟩ := err_room he
  dsimp only at r1 r2 r3 r4 r5 h
  by_cases hk : to ≠ 0 ∧ to ≠ 1
  · have hp : pktErr ⟨to, data⟩ = 2 := by unfold pktErr; rw [if_pos hk]
    rw [decide_eq_false hk.1, Bool.not_false, cond_true, decide_eq_false hk.2, Bool.not_false, cond_true]
    rw [hp, if_pos (by decide)] at h
    exact wk_send h
  have hJ : ∀ A B : Prop, B → (bif !decide (to = 0) then (bif !decide (to = 1) then A else B) else B) := fun A B hB => by
    by_cases h0 : to = 0
    · rw [decide_eq_true h0]; exact hB
    · have h1 : to = 1 := by omega
      rw [decide_eq_false h0, decide_eq_true h1]; exact hB
  refine hJ _ _ ?_
  by_cases hd : 65536 < data.size
  · have hp : pktErr ⟨to, data⟩ = 4 := by unfold pktErr; rw [if_neg hk, if_pos hd]
    rw [show decide (65536 < (data.size : Int)) = true by simp; omega, cond_true]
    rw [hp, if_pos (by decide)] at h
    exact wk_send h
  have hp : pktErr ⟨to, data⟩ = 0 := by unfold pktErr; rw [if_neg hk, if_neg hd]
  rw [show decide (65536 < (data.size : Int)) = false by simp; omega, cond_false]
  rw [hp, if_neg (by simp)] at h
  refine ⟨by omega, ?_⟩
  -- the loop over the delays
  have loop : ∀ (f : Int) (ft' : List Int), fits64 f → 0 ≤ f → fateOf ft = f → ft.tail = ft' → sp24.pre (f, ()) ∧ LoopW (γ := prodL [.sl .i64, .int .i64, .int .i64, .sl .flt, .sl .i64, .int .i64, .str, .int .i64, .int .i64, .sl .flt, .sl .i64]) (fun W6 g5 =>
      bif decide (g5.2.1 < (g5.1.length : Int)) then (
        At g5.1 g5.2.1 fun u7 =>
      Room (g5.2.2.2.2.2.2.2.2.2.1.length + [(⟨⟨g5.2.2.2.2.2.1, g5.2.2.2.2.2.2.1⟩, (IntKind.i64.wrap (g5.2.2.1 + u7))⟩ : Flt)].length) 32 (
      W6 (g5.1, IntKind.i64.wrap (g5.2.1 + 1), g5.2.2.1, g5.2.2.2.1, g5.2.2.2.2.1, g5.2.2.2.2.2.1, g5.2.2.2.2.2.2.1, g5.2.2.2.2.2.2.2.1, g5.2.2.2.2.2.2.2.2.1, g5.2.2.2.2.2.2.2.2.2.1 ++ [(⟨⟨g5.2.2.2.2.2.1, g5.2.2.2.2.2.2.1⟩, (IntKind.i64.wrap (g5.2.2.1 + u7))⟩ : Flt)], g5.2.2.2.2.2.2.2.2.2.2.1, ())))
      else (
        bif decide (1000 < (g5.2.2.2.2.2.2.2.2.2.1.length : Int)) then (
      wkK K (.tu [.ag [.int .i64 0, .nil, .nil], .int .i64 17]) [])
    else (
      wkK K (.tu [.ag [.int .i64 g5.2.2.2.2.2.2.2.2.1, .sl false .flt g5.2.2.2.2.2.2.2.2.2.1, .sl false .i64 g5.2.2.2.2.2.2.2.2.2.2.1], .int .i64 0]) []))) (delaysOf f, 0, now, fl, ft, to, data, 0, now, fl, ft', ()) := by
    intro f ft' hf hf0 e1 e2
    refine ⟨hf, ?_⟩
    obtain ⟨d1, _⟩ := delays_le f
    have d2 := delays_nn hf0
    refine LoopW.countTo (delaysOf f).length (fun n => (delaysOf f, (n : Int), now, fl, ft, to, data, 0, now, fl ++ flightsOf now ⟨to, data⟩ ((delaysOf f).take n), ft', ())) (fun _ => True) (by simp [flightsOf]) (fun n hn _ W hW => ?_) trivial
    dsimp only
    have hlen : (fl ++ flightsOf now ⟨to, data⟩ ((delaysOf f).take n)).length ≤ 1002 := by simp [flightsOf]; omega
    by_cases hlt : n < (delaysOf f).length
    · rw [show decide ((n : Int) < ((delaysOf f).length : Int)) = true by simp; omega, cond_true]
      refine At_of hlt ⟨by simp only [List.length_singleton]; omega, ?_⟩
      have hb := d2 _ (List.getElem_mem hlt)
      rw [wrapS hlt (by omega), wrap64 (by omega) (by omega)]
      have := hW hlt trivial
      rw [take_snoc hlt] at this
      simp only [flightsOf, List.map_append, List.map_cons, List.map_nil, ← List.append_assoc] at this ⊢
      exact this
    · rw [show decide ((n : Int) < ((delaysOf f).length : Int)) = false by simp; omega, cond_false]
      rw [List.take_of_length_le (by omega)]
      rw [e1] at h
      by_cases h1000 : 1000 < (fl ++ flightsOf now ⟨to, data⟩ (delaysOf f)).length
      · rw [show decide (1000 < ((fl ++ flightsOf now ⟨to, data⟩ (delaysOf f)).length : Int)) = true by simp only [decide_eq_true_eq]; omega, cond_true]
        rw [if_pos h1000] at h
        exact wk_send h
      · rw [show decide (1000 < ((fl ++ flightsOf now ⟨to, data⟩ (delaysOf f)).length : Int)) = false by simp only [decide_eq_false_iff_not]; omega, cond_false]
        rw [if_neg h1000, e2] at h
        exact wkK.same h
  cases ft with
  | nil =>
    rw [show decide (0 < (([] : List Int).length : Int)) = false by decide, cond_false]
    exact loop 1 [] ⟨by decide, by decide⟩ (by decide) rfl rfl
  | cons f r =>
    rw [show decide (0 < ((f :: r).length : Int)) = true from decide_eq_true (by simp only [List.length_cons]; omega), cond_true]
    refine ⟨by decide, f, rfl, by decide, by simp only [List.length_cons]; omega, ?_, ?_⟩
    · simp at r2 ⊢; omega
    · exact loop f r (hft f (by simp)) (r5 f (by simp)) rfl rfl
def sp13 : Sp := ⟨S13, L13, fun g => ∀ f ∈ g.2.2.1, fits64 f, fun g => sendT (sendOf ⟨g.1, g.2.1, g.2.2.1⟩ ⟨g.2.2.2.1, g.2.2.2.2.1⟩), fun _ => none⟩
theorem sp13_ok : sp13.Ok Try.prog 13 false :=
  ⟨fun _ _ X hp h => FCalls.weak (F13_ok _ _ X (F13_is hp h)), fun _ _ _ => rfl, fun _ => rfl, fun h => by cases h⟩
end Go.Proofs.Ythjikjhddddplaa
