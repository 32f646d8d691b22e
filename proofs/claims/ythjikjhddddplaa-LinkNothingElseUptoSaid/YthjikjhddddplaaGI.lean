/-
  LinkNothingElse: its text yields true.
-/
import Derived.Test.YthjikjhddddplaaGH
namespace Go.Proofs.Ythjikjhddddplaa
set_option linter.unusedVariables false
set_option linter.unusedSimpArgs false
open Go.RowKit

/-- How often a packet shall arrive. -/
def wantOf : List Int → List Pkt → Pkt → Nat
  | _, [], _ => 0
  | ft, x :: r, p => (if x = p then (delaysOf (fateOf ft)).length else 0) + wantOf ft.tail r p
theorem wantOf_snoc {p x : Pkt} : ∀ {ft : List Int} {ps : List Pkt}, wantOf ft (ps ++ [x]) p = wantOf ft ps p + (if x = p then (delaysOf (fateOf (ft.drop ps.length))).length else 0)
  | ft, [] => by simp [wantOf]
  | ft, y :: r => by
    have := wantOf_snoc (p := p) (x := x) (ft := ft.tail) (ps := r)
    simp only [List.cons_append, wantOf, this, List.length_cons, List.drop_tail]
    omega
theorem wantOf_le {p : Pkt} : ∀ {ft : List Int} {ps : List Pkt}, wantOf ft ps p ≤ 2 * ps.length
  | _, [] => Nat.le_refl _
  | ft, y :: r => by
    have := wantOf_le (p := p) (ft := ft.tail) (ps := r)
    have := (delays_le (fateOf ft)).1
    simp only [wantOf, List.length_cons]
    split <;> omega
theorem count_flights {now : Int} {p : Pkt} : ∀ {ft : List Int} {ps : List Pkt}, ((flightsAll now ft ps).map (·.pkt)).count p = wantOf ft ps p
  | _, [] => rfl
  | ft, x :: r => by
    simp only [flightsAll, List.map_append, List.count_append, count_flights, wantOf]
    congr 1
    have : (flightsOf now x (delaysOf (fateOf ft))).map (·.pkt) = List.replicate (delaysOf (fateOf ft)).length x := by
      simp only [flightsOf, List.map_map]
      exact List.map_const' ..
    rw [this, List.count_replicate]
    by_cases h : x = p
    · simp [h]
    · simp [h]
/-- What arrives in some steps. -/
def comeOf (l : Lnk) : Nat → List Pkt
  | 0 => []
  | k + 1 => comeOf l k ++ (l.flights.filter (fun f => decide (l.now + k < f.due ∧ f.due ≤ l.now + k + 1))).map (·.pkt)
theorem count_split {p : Pkt} (q r s : Flt → Bool) (h : ∀ f, q f = (r f || s f)) (hd : ∀ f, (r f && s f) = false) : ∀ l : List Flt, ((l.filter q).map (·.pkt)).count p = ((l.filter r).map (·.pkt)).count p + ((l.filter s).map (·.pkt)).count p
  | [] => rfl
  | f :: l => by
    have ih := count_split (p := p) q r s h hd l
    have h1 := h f
    have h2 := hd f
    simp only [List.filter_cons]
    cases hr : r f <;> cases hs : s f <;> rw [hr, hs] at h1 h2 <;> simp at h1 h2 <;> rw [h1] <;> simp [List.count_cons, ih] <;> omega
theorem count_come {l : Lnk} {p : Pkt} (hd : ∀ f ∈ l.flights, l.now + 1 ≤ f.due) : ∀ k : Nat, (comeOf l k).count p = ((l.flights.filter (fun f => decide (f.due ≤ l.now + k))).map (·.pkt)).count p
  | 0 => by
    have : l.flights.filter (fun f => decide (f.due ≤ l.now + ((0 : Nat) : Int))) = [] := by
      rw [List.filter_eq_nil_iff]
      intro f hf
      have := hd f hf
      simp; omega
    rw [this]; rfl
  | k + 1 => by
    rw [comeOf, List.count_append, count_come hd k]
    refine (count_split _ _ _ (fun f => ?_) (fun f => ?_) _).symm
    · rw [Bool.eq_iff_iff]
      simp only [Bool.or_eq_true, decide_eq_true_eq]
      omega
    · rw [← Bool.not_eq_true, Bool.and_eq_true, decide_eq_true_eq, decide_eq_true_eq]
      omega
theorem come_all {l : Lnk} {p : Pkt} (hd : ∀ f ∈ l.flights, l.now + 1 ≤ f.due ∧ f.due ≤ l.now + 9) : (comeOf l 9).count p = (l.flights.map (·.pkt)).count p := by
  rw [count_come fun f hf => (hd f hf).1]
  congr 2
  rw [List.filter_eq_self]
  intro f hf
  have := (hd f hf).2
  simp; omega
theorem come_mem {l : Lnk} {p : Pkt} : ∀ {k : Nat}, p ∈ comeOf l k → p ∈ l.flights.map (·.pkt)
  | 0, h => by simp [comeOf] at h
  | k + 1, h => by
    rcases List.mem_append.1 h with h | h
    · exact come_mem h
    · obtain ⟨f, hf, rfl⟩ := List.mem_map.1 h
      exact List.mem_map.2 ⟨f, (List.mem_filter.1 hf).1, rfl⟩
theorem come_len {l : Lnk} : ∀ {k : Nat}, (comeOf l k).length ≤ k * l.flights.length
  | 0 => by simp [comeOf]
  | k + 1 => by
    have := come_len (l := l) (k := k)
    have := List.length_filter_le (fun f => decide (l.now + k < f.due ∧ f.due ≤ l.now + k + 1)) l.flights
    rw [comeOf, List.length_append, List.length_map, Nat.succ_mul]
    omega
/-- The sum of shares. -/
def shares (come ps : List Pkt) : List Pkt → Nat
  | [] => 0
  | p :: r => come.count p / max 1 (ps.count p) + shares come ps r
theorem shares_append {come ps : List Pkt} : ∀ {a b : List Pkt}, shares come ps (a ++ b) = shares come ps a + shares come ps b
  | [], _ => by simp [shares]
  | p :: a, b => by simp only [List.cons_append, shares, shares_append]; omega
theorem shares_split {come ps : List Pkt} {p : Pkt} : ∀ l : List Pkt, shares come ps l = l.count p * (come.count p / max 1 (ps.count p)) + shares come ps (l.filter (fun x => !decide (x = p)))
  | [] => by simp [shares]
  | x :: l => by
    have ih := shares_split (come := come) (ps := ps) (p := p) l
    by_cases h : x = p
    · subst h
      simp only [shares, List.count_cons_self, List.filter_cons, decide_true, Bool.not_true, Bool.false_eq_true, if_false, Nat.succ_mul, ih]
      omega
    · simp only [shares, List.count_cons_of_ne h, List.filter_cons, decide_eq_false h, Bool.not_false, if_true, ih]
      omega
theorem count_ne {p q : Pkt} (h : q ≠ p) (l : List Pkt) : (l.filter (fun x => !decide (x = p))).count q = l.count q := by
  rw [List.count_filter]
  simp [h]
theorem shares_congr {c c' ps ps' : List Pkt} : ∀ l : List Pkt, (∀ q ∈ l, c.count q = c'.count q ∧ ps.count q = ps'.count q) → shares c ps l = shares c' ps' l
  | [], _ => rfl
  | q :: l, h => by
    obtain ⟨h1, h2⟩ := h q (by simp)
    simp only [shares, h1, h2, shares_congr l fun x hx => h x (by simp [hx])]
theorem shares_le : ∀ (n : Nat) (come ps : List Pkt), ps.length ≤ n → shares come ps ps ≤ come.length
  | _, come, [], _ => Nat.zero_le _
  | 0, come, _ :: _, h => by simp at h
  | n + 1, come, p :: r, h => by
    have hlen : ((p :: r).filter (fun x => !decide (x = p))).length ≤ n := by
      rw [List.filter_cons, if_neg (by simp)]
      have := List.length_filter_le (fun x => !decide (x = p)) r
      simp at h
      omega
    have ih := shares_le n (come.filter (fun x => !decide (x = p))) ((p :: r).filter (fun x => !decide (x = p))) hlen
    rw [shares_split (p := p)]
    have hc : shares come (p :: r) ((p :: r).filter (fun x => !decide (x = p))) = shares (come.filter (fun x => !decide (x = p))) ((p :: r).filter (fun x => !decide (x = p))) ((p :: r).filter (fun x => !decide (x = p))) := by
      refine shares_congr _ fun q hq => ?_
      have hq : q ≠ p := by simpa using (List.mem_filter.1 hq).2
      exact ⟨(count_ne hq _).symm, (count_ne hq _).symm⟩
    rw [hc]
    have hk : (p :: r).count p * (come.count p / max 1 ((p :: r).count p)) ≤ come.count p := by
      have : max 1 ((p :: r).count p) = (p :: r).count p := by
        have : 0 < (p :: r).count p := List.count_pos_iff.2 (by simp)
        omega
      rw [this]
      exact Nat.mul_div_le _ _
    have hsum : come.length = come.count p + (come.filter (fun x => !decide (x = p))).length := by
      have : ∀ l : List Pkt, l.length = l.count p + (l.filter (fun x => !decide (x = p))).length := by
        intro l
        induction l with
        | nil => rfl
        | cons x l ih =>
          by_cases h : x = p
          · subst h; simp [ih]; omega
          · simp [List.count_cons_of_ne h, List.filter_cons, h, ih]; omega
      exact this come
    omega
theorem F7_is {ps : List Pkt} {ft : List Int} {K : Kn} (hr : ps.length ≤ 4294967296) (hft : ∀ f ∈ ft, fits64 f) (h : K (.bool true) []) : F7 (ps, ft, ()) K := by
  unfold F7
  have yes : ∀ b, (b = false → shortB ps = true ∧ ft.length ≤ 20 ∧ (⟨0, [], ft⟩ : Lnk).err = 0) → F7_J2 K ps ft b := fun b hb => by
    unfold F7_J2
    cases b with
    | true => exact ⟨trivial, h⟩
    | false =>
      rw [cond_false]
      obtain ⟨b1, b3, b4⟩ := hb rfl
      obtain ⟨p1, p2⟩ := short_ok b1
      obtain ⟨_, _, _, _, hnn⟩ := err_zero.1 b4
      obtain ⟨r1, r2, r3, r4⟩ := flightsAll_err b4 p1 (by simp; omega)
      refine ⟨⟨hr, hft⟩, ?_⟩
      rw [r4, Bool.not_true, cond_false]
      generalize (sentOf ⟨0, [], ft⟩ ps).1 = l at *
      dsimp only at r1 r2 hnn
      rw [List.nil_append] at r2
      have hln : l.now = 0 := r1
      have hdue : ∀ f ∈ l.flights, l.now + 1 ≤ f.due ∧ f.due ≤ l.now + 9 := fun f hf => by
        rw [r2] at hf
        have := flightsAll_due hnn f hf
        omega
      have hfl : l.flights.length ≤ 24 := by
        rw [r2]
        have := flightsAll_len (now := 0) (ft := ft) (ps := ps)
        omega
      have hcl : ∀ k, k ≤ 9 → (comeOf l k).length ≤ 216 := fun k hk => by
        have := come_len (l := l) (k := k)
        have : k * l.flights.length ≤ 9 * 24 := Nat.mul_le_mul hk hfl
        omega
      refine LoopW.countTo 9 (fun n => (ps, ft, (n : Int), (after l n).now, (after l n).flights, (after l n).fates, comeOf l n, ())) (fun _ => True) (by rw [after_zero r3]; rfl) (fun n hn _ W hW => ?_) trivial
      dsimp only
      unfold F7_B6
      by_cases hlt : n < 9
      · rw [show decide ((n : Int) < 9) = true by simp; omega, cond_true]
        refine ⟨trivial, ?_⟩
        have hs : stepOf ⟨(after l n).now, (after l n).flights, (after l n).fates⟩ = _ := after_step (l := l) n (after_err r3 n (by omega)) (by omega)
        rw [hs]
        dsimp only
        rw [decide_eq_true (p := (0 : Int) = 0) rfl, Bool.not_true, cond_false]
        have h1 := hcl (n + 1) hlt
        rw [comeOf, List.length_append] at h1
        refine ⟨by omega, ?_⟩
        rw [wrap64 (by omega) (by omega)]
        exact hW hlt trivial
      · rw [show decide ((n : Int) < 9) = false by simp; omega, cond_false]
        have hn9 : n = 9 := by omega
        subst hn9
        have hnine := after_nine r3 9 (Nat.le_refl _)
        have hc9 := hcl 9 (Nat.le_refl _)
        have hcount : ∀ p, (comeOf l 9).count p = wantOf ft ps p := fun p => by rw [come_all hdue, r2, count_flights]
        have hmem : ∀ x ∈ comeOf l 9, x ∈ ps := fun x hx => by
          obtain ⟨f, hf, rfl⟩ := List.mem_map.1 (come_mem hx)
          rw [r2] at hf
          exact (flightsAll_due hnn f hf).2.2
        generalize comeOf l 9 = come at *
        generalize (after l 9).now = a1
        generalize (after l 9).flights = a2 at *
        generalize (after l 9).fates = a3
        have hsh : ∀ n, n ≤ ps.length → shares come ps (ps.take n) ≤ 216 := fun n hn => by
          have h1 : shares come ps (ps.take n) + shares come ps (ps.drop n) = shares come ps ps := by rw [← shares_append, List.take_append_drop]
          have := shares_le _ come ps (Nat.le_refl _)
          omega
        refine LoopW.countTo ps.length (fun n => (ps, ft, ((shares come ps (ps.take n) : Nat) : Int), ps, (ps.length : Int), (n : Int), a1, a2, a3, come, ())) (fun _ => True) (by simp [shares]) (fun n hn _ W hW => ?_) trivial
        dsimp only
        unfold F7_B8
        by_cases hlt : n < ps.length
        · rw [show decide ((n : Int) < (ps.length : Int)) = true by simp; omega, cond_true]
          refine At_of hlt ?_
          refine LoopW.countTo ps.length (fun j => (ps, ft, ((shares come ps (ps.take n) : Nat) : Int), ((wantOf ft (ps.take j) ps[n] : Nat) : Int), ps, (ps.length : Int), (n : Int), ps, (ps.length : Int), (j : Int), a1, a2, a3, come, ps[n].to, ps[n].data, ())) (fun _ => True) (by simp [wantOf]) (fun j hj _ W' hW' => ?_) trivial
          dsimp only
          unfold F7_B11
          by_cases hltj : j < ps.length
          · rw [show decide ((j : Int) < (ps.length : Int)) = true by simp; omega, cond_true]
            refine At_of hltj ?_
            have hstep : ∀ f, f = fateOf (ft.drop j) → F7_J15 K W' ps ft ((shares come ps (ps.take n) : Nat) : Int) ((wantOf ft (ps.take j) ps[n] : Nat) : Int) f ps (ps.length : Int) (n : Int) ps (ps.length : Int) (j : Int) a1 a2 a3 come ps[n].to ps[n].data ps[j].to ps[j].data := fun f hf => by
              have hnext := hW' hltj trivial
              rw [take_snoc hltj, wantOf_snoc] at hnext
              have hlj : (ps.take j).length = j := by simp; omega
              rw [hlj, ← hf] at hnext
              have hwj : wantOf ft (ps.take j) ps[n] ≤ 24 := by
                have := wantOf_le (p := ps[n]) (ft := ft) (ps := ps.take j)
                omega
              have hfit : fits64 f := by
                rw [hf]
                unfold fateOf
                split
                · exact ⟨by decide, by decide⟩
                · rename_i f r e; exact hft f (List.mem_of_mem_drop (by rw [e]; simp))
              have hdl := (delays_le f).1
              unfold F7_J15
              have hc : (decide (ps[j].to = ps[n].to) && (decide (ps[j].data = ps[n].data) && true)) = decide (ps[j] = ps[n]) := by
                generalize ps[j] = x
                generalize ps[n] = y
                obtain ⟨x1, x2⟩ := x
                obtain ⟨y1, y2⟩ := y
                rw [Bool.eq_iff_iff]
                simp
              rw [hc]
              by_cases hx : ps[j] = ps[n]
              · rw [decide_eq_true hx, cond_true]
                rw [if_pos hx] at hnext
                refine ⟨hfit, ?_⟩
                unfold F7_J17
                rw [wrapS hltj (by omega), wrap64 (by omega) (by omega)]
                exact hnext
              · rw [decide_eq_false hx, cond_false]
                rw [if_neg hx] at hnext
                unfold F7_J17
                rw [wrapS hltj (by omega)]
                exact hnext
            by_cases hfj : j < ft.length
            · rw [show decide ((j : Int) < (ft.length : Int)) = true by simp; omega, cond_true]
              refine At_of hfj (hstep _ ?_)
              rw [List.drop_eq_getElem_cons hfj]
              rfl
            · rw [show decide ((j : Int) < (ft.length : Int)) = false by simp; omega, cond_false]
              refine hstep _ ?_
              rw [List.drop_of_length_le (by omega)]
              rfl
          · rw [show decide ((j : Int) < (ps.length : Int)) = false by simp; omega, cond_false]
            rw [List.take_of_length_le (l := ps) (i := j) (by omega)]
            have hcn := hcount ps[n]
            have he : (⟨ps[n].to, ps[n].data⟩ : Pkt) = ps[n] := rfl
            rw [he]
            refine ⟨by show come.length ≤ 4294967296; omega, ?_⟩
            rw [← hcn, decide_eq_true rfl, Bool.not_true, cond_false]
            refine ⟨by show come.length ≤ 4294967296; omega, hr, ?_⟩
            have hnext := hW hlt trivial
            rw [take_snoc hlt, shares_append] at hnext
            have hsn := hsh (n + 1) hlt
            rw [take_snoc hlt, shares_append] at hsn
            simp only [shares, Nat.add_zero] at hnext hsn
            have hmax : (if ((ps.count ps[n] : Nat) : Int) > 1 then ((ps.count ps[n] : Nat) : Int) else 1) = ((max 1 (ps.count ps[n]) : Nat) : Int) := by
              split <;> omega
            rw [hmax]
            refine ⟨by omega, ?_⟩
            have hdiv : Int.tdiv ((come.count ps[n] : Nat) : Int) ((max 1 (ps.count ps[n]) : Nat) : Int) = ((come.count ps[n] / max 1 (ps.count ps[n]) : Nat) : Int) := rfl
            rw [hdiv]
            generalize come.count ps[n] / max 1 (ps.count ps[n]) = q at hnext hsn ⊢
            rw [wrap64 (n := (q : Int)) (by omega) (by omega), wrap64 (by omega) (by omega), wrapS hlt (by omega)]
            exact hnext
        · rw [show decide ((n : Int) < (ps.length : Int)) = false by simp; omega, cond_false]
          rw [List.take_of_length_le (by omega)]
          have hle := shares_le _ come ps (Nat.le_refl _)
          refine LoopW.countTo come.length (fun n => (ps, ((shares come ps ps : Nat) : Int), (come.length : Int), (n : Int), a1, a2, a3, come, ())) (fun _ => True) rfl (fun n hn _ W hW => ?_) trivial
          dsimp only
          unfold F7_B19
          by_cases hlt : n < come.length
          · rw [show decide ((n : Int) < (come.length : Int)) = true by simp; omega, cond_true]
            refine ⟨Int.natCast_nonneg _, by rw [Int.toNat_natCast]; exact hlt, come[n], by rw [Int.toNat_natCast, List.getElem?_eq_getElem hlt], hr, ?_⟩
            have hpos : 0 < ps.count come[n] := List.count_pos_iff.2 (hmem _ (List.getElem_mem hlt))
            have he : (⟨come[n].to, come[n].data⟩ : Pkt) = come[n] := rfl
            rw [he, show decide (((ps.count come[n] : Nat) : Int) = 0) = false by simp only [decide_eq_false_iff_not]; omega, cond_false, wrapS hlt (by omega)]
            exact hW hlt trivial
          · rw [show decide ((n : Int) < (come.length : Int)) = false by simp; omega, cond_false]
            rw [show decide (((shares come ps ps : Nat) : Int) ≤ (come.length : Int)) = true by simp only [decide_eq_true_eq]; omega, cond_true]
            refine ⟨trivial, ?_⟩
            rw [hnine]
            exact ⟨trivial, h⟩
  refine ⟨hr, ?_⟩
  dsimp only
  cases h1 : shortB ps with
  | false => exact yes true (by simp)
  | true =>
    rw [Bool.not_true, cond_false]
    by_cases h3 : 20 < ft.length
    · rw [show decide (20 < (ft.length : Int)) = true by simp; omega]
      exact yes true (by simp)
    · rw [show decide (20 < (ft.length : Int)) = false by simp; omega, cond_false]
      refine ⟨trivial, yes _ fun h4 => ⟨h1, by omega, ?_⟩⟩
      simpa using h4
theorem linkNothingElse.calls (g : prodL L7) (hw : wfL L7 g) (hb : bkL L7 g ≤ 1048576) : FCalls Try.prog 7 (argsT S7 L7 g) [] (fun r _ => r = .bool true) fun _ _ => False := by
  obtain ⟨ps, ft, u⟩ := g
  have h1 := bk_len (e := .pkt) (fun x => by simp [bk]) ps
  simp only [bkL] at hb
  exact F7_ok _ _ _ (F7_is (by omega) (ft_fits hw.2.1) rfl)
end Go.Proofs.Ythjikjhddddplaa
