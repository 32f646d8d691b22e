/-
  Link: what its functions yield, in plain terms, 2.
-/
import Derived.Test.YthjikjhddddplaaFS
namespace Go.Proofs.Ythjikjhddddplaa
set_option linter.unusedVariables false
set_option linter.unusedSimpArgs false
open Go.RowKit

theorem LoopW.countTo {γ : Type} {body : (γ → Prop) → γ → Prop} {g : γ} (N : Nat) (S : Nat → γ) (P : Nat → Prop) (hg : g = S 0) (h : ∀ n, n ≤ N → P n → ∀ W : γ → Prop, (n < N → P (n + 1) → W (S (n + 1))) → body W (S n)) (h0 : P 0) : LoopW body g := by
  rw [hg]; exact LoopW.count N S P h h0
def fits64 (n : Int) : Prop := -9223372036854775808 ≤ n ∧ n < 9223372036854775808
theorem tdiv_fits {f : Int} (h : fits64 f) : IntKind.i64.wrap (f.tdiv 4) = f.tdiv 4 := by
  obtain ⟨h1, h2⟩ := h
  refine wrap64 ?_ ?_ <;> rcases Int.le_total 0 f with h0 | h0
  · have := Int.tdiv_nonneg h0 (show (0 : Int) ≤ 4 by decide); omega
  · rw [show f = -(-f) by omega, Int.neg_tdiv, Int.tdiv_eq_ediv_of_nonneg (by omega)]; omega
  · rw [Int.tdiv_eq_ediv_of_nonneg h0]; omega
  · rw [show f = -(-f) by omega, Int.neg_tdiv, Int.tdiv_eq_ediv_of_nonneg (by omega)]; omega
theorem tmod8 (x : Int) : -8 < x.tmod 8 ∧ x.tmod 8 < 8 := by
  rcases Int.le_total 0 x with h0 | h0
  · rw [Int.tmod_eq_emod_of_nonneg h0]; omega
  · rw [show x = -(-x) by omega, Int.neg_tmod, Int.tmod_eq_emod_of_nonneg (by omega)]; omega
theorem wrap_delay (f c : Int) (h : fits64 f) (hc : 0 ≤ c ∧ c ≤ 10) : IntKind.i64.wrap (c + (IntKind.i64.wrap (f.tdiv 4)).tmod 8) = c + (f.tdiv 4).tmod 8 := by
  rw [tdiv_fits h]
  have := tmod8 (f.tdiv 4)
  exact wrap64 (by omega) (by omega)
theorem F24_is {f : Int} {K : Kn} (hf : fits64 f) (h : K (.sl false .i64 (delaysOf f)) []) : F24 (f, ()) (wkK K) := by
  unfold F24
  unfold delaysOf at h
  dsimp only [Lf.ty, prodL] at h ⊢
  refine ⟨by decide, by decide, by decide, ?_⟩
  simp only [Bool.cond_eq_ite, decide_eq_true_eq, wrap_delay f 1 hf (by decide), wrap_delay f 2 hf (by decide)]
  by_cases h1 : f.tmod 4 = 1
  · simp only [h1, if_true] at h ⊢; exact wkK.sl h
  · by_cases h2 : f.tmod 4 = 2
    · simp only [h2, if_true] at h ⊢; exact wkK.sl h
    · by_cases h3 : f.tmod 4 = 3
      · simp only [h3, if_true] at h ⊢; exact wkK.sl h
      · simp only [h1, h2, h3, if_false] at h ⊢; exact wkK.nil .i64 h
def sp24 : Sp := ⟨S24, L24, fun g => fits64 g.1, fun g => .sl false .i64 (delaysOf g.1), fun _ => none⟩
theorem sp24_ok : sp24.Ok Try.prog 24 false :=
  ⟨fun _ _ X hp h => FCalls.weak (F24_ok _ _ X (F24_is hp h)), fun _ _ _ => rfl, fun _ => rfl, fun h => by cases h⟩
theorem F28_is {f : Int} {K : Kn} (hf : fits64 f) (hn : 0 ≤ f) (h : K (.sl false .i64 (delaysOf f)) []) : F28 (f, ()) (wkK K) := by
  unfold F28
  unfold delaysOf at h
  dsimp only [Lf.ty, prodL] at h ⊢
  refine ⟨by decide, by decide, by decide, ?_⟩
  simp only [Bool.cond_eq_ite, decide_eq_true_eq, wrap_delay f 1 hf (by decide), wrap_delay f 2 hf (by decide)]
  have hm : f.tmod 4 = 0 ∨ f.tmod 4 = 1 ∨ f.tmod 4 = 2 ∨ f.tmod 4 = 3 := by
    rw [Int.tmod_eq_emod_of_nonneg hn]
    omega
  by_cases h0 : f.tmod 4 = 0
  · simp only [h0] at h ⊢; exact wkK.nil .i64 h
  · by_cases h1 : f.tmod 4 = 1
    · simp only [h1, if_true] at h ⊢; exact wkK.sl h
    · by_cases h2 : f.tmod 4 = 2
      · simp only [h2, if_true] at h ⊢; exact wkK.sl h
      · by_cases h3 : f.tmod 4 = 3
        · simp only [h3, if_true] at h ⊢; exact wkK.sl h
        · omega
def sp28 : Sp := ⟨S28, L28, fun g => fits64 g.1 ∧ 0 ≤ g.1, fun g => .sl false .i64 (delaysOf g.1), fun _ => none⟩
theorem sp28_ok : sp28.Ok Try.prog 28 false :=
  ⟨fun _ _ X hp h => FCalls.weak (F28_ok _ _ X (F28_is hp.1 hp.2 h)), fun _ _ _ => rfl, fun _ => rfl, fun h => by cases h⟩
theorem F25_is {ps : List Pkt} {p : Pkt} {K : Kn} (hr : ps.length ≤ 4294967296) (h : K (.int .i64 ((ps.count p : Nat) : Int)) []) : F25 (ps, p.to, p.data, ()) K := by
  unfold F25
  dsimp only [Lf.ty, prodL]
  refine LoopW.countTo ps.length (fun n => ((((ps.take n).count p : Nat) : Int), ps, (ps.length : Int), (n : Int), p.to, p.data, ())) (fun _ => True) (by simp) (fun n hn _ W hW => ?_) trivial
  dsimp only
  by_cases hlt : n < ps.length
  · rw [show decide ((n : Int) < (ps.length : Int)) = true by simp; omega, cond_true]
    refine At_of hlt ?_
    have hc : (ps.take n).count p ≤ n := Nat.le_trans List.count_le_length (by simp; omega)
    have hW := hW hlt trivial
    rw [take_snoc hlt, List.count_append] at hW
    rw [wrapS hlt hr]
    by_cases he : ps[n] = p
    · rw [show (decide (ps[n].to = p.to) && (decide (ps[n].data = p.data) && true)) = true by simp [he], cond_true, wrapS (N := n + 1) (by omega) (by omega)]
      rw [he] at hW
      simpa using hW
    · rw [show (decide (ps[n].to = p.to) && (decide (ps[n].data = p.data) && true)) = false by
        simp only [Bool.and_eq_false_iff, decide_eq_false_iff_not, Bool.and_true]
        by_cases h1 : ps[n].to = p.to
        · right; intro h2; exact he (by cases hx : ps[n]; cases p; simp_all)
        · exact .inl h1, cond_false]
      have : List.count p [ps[n]] = 0 := by simp [List.count_cons]; exact he
      rw [this] at hW
      simpa using hW
  · rw [show decide ((n : Int) < (ps.length : Int)) = false by simp; omega, cond_false]
    rw [List.take_of_length_le (by omega)]
    exact h
def sp25 : Sp := ⟨S25, L25, fun g => g.1.length ≤ 4294967296, fun g => .int .i64 ((List.count (⟨g.2.1, g.2.2.1⟩ : Pkt) g.1 : Nat) : Int), fun _ => none⟩
theorem sp25_ok : sp25.Ok Try.prog 25 true :=
  ⟨fun g _ X hp h => F25_ok _ _ X (F25_is (p := ⟨g.2.1, g.2.2.1⟩) hp h), fun _ _ _ => rfl, fun _ => rfl, fun _ _ => ⟨rfl, rfl⟩⟩
def shortB (ps : List Pkt) : Bool := decide ((∀ p ∈ ps, p.data.size ≤ 200 ∧ (p.to = 0 ∨ p.to = 1)) ∧ ps.length ≤ 12)
theorem F22_is {ps : List Pkt} {K : Kn} (hr : ps.length ≤ 4294967296) (h : K (.bool (shortB ps)) []) : F22 (ps, ()) K := by
  unfold F22
  dsimp only [Lf.ty, prodL]
  refine LoopW.count ps.length (fun n => (ps, ps, (ps.length : Int), (n : Int), ())) (fun n => ∀ p ∈ ps.take n, p.data.size ≤ 200 ∧ (p.to = 0 ∨ p.to = 1)) (fun n hn hp W hW => ?_) (by simp)
  dsimp only
  unfold shortB at h
  by_cases hlt : n < ps.length
  · rw [show decide ((n : Int) < (ps.length : Int)) = true by simp; omega, cond_true]
    refine At_of hlt ?_
    have bad : ¬ (ps[n].data.size ≤ 200 ∧ (ps[n].to = 0 ∨ ps[n].to = 1)) → K (.bool false) [] := fun hb => by
      rwa [decide_eq_false (fun h => hb (h.1 _ (List.getElem_mem hlt)))] at h
    have good : (ps[n].data.size ≤ 200 ∧ (ps[n].to = 0 ∨ ps[n].to = 1)) → W (ps, ps, (ps.length : Int), IntKind.i64.wrap ((n : Int) + 1), ()) := fun hb => by
      rw [wrapS hlt hr]
      refine hW hlt fun p hp' => ?_
      rw [take_snoc hlt] at hp'
      rcases List.mem_append.1 hp' with h1 | h1
      · exact hp p h1
      · simp at h1; subst h1; exact hb
    by_cases h1 : ps[n].data.size ≤ 200
    · rw [show decide (200 < (ps[n].data.size : Int)) = false by simp; omega, cond_false]
      by_cases h2 : ps[n].to = 0
      · simp only [h2, decide_true, Bool.not_true, cond_false]
        exact good ⟨h1, .inl h2⟩
      · by_cases h3 : ps[n].to = 1
        · simp only [h3, decide_true, Bool.not_true]
          rw [show (!decide ((1 : Int) = 0)) = true by decide, cond_true]
          exact good ⟨h1, .inr h3⟩
        · simp only [h2, h3, decide_false, Bool.not_false, cond_true]
          exact bad (by simp [h2, h3])
    · rw [show decide (200 < (ps[n].data.size : Int)) = true by simp; omega, cond_true, cond_true]
      exact bad (by simp [h1])
  · rw [show decide ((n : Int) < (ps.length : Int)) = false by simp; omega, cond_false]
    rw [List.take_of_length_le (by omega)] at hp
    rwa [show decide ((∀ p ∈ ps, p.data.size ≤ 200 ∧ (p.to = 0 ∨ p.to = 1)) ∧ ps.length ≤ 12) = decide ((ps.length : Int) ≤ 12) by
      rw [decide_eq_decide]; exact ⟨fun h => by omega, fun h => ⟨hp, by omega⟩⟩] at h
def sp22 : Sp := ⟨S22, L22, fun g => g.1.length ≤ 4294967296, fun g => .bool (shortB g.1), fun _ => none⟩
theorem sp22_ok : sp22.Ok Try.prog 22 true :=
  ⟨fun _ _ X hp h => F22_ok _ _ X (F22_is hp h), fun _ _ _ => rfl, fun _ => rfl, fun _ _ => ⟨rfl, rfl⟩⟩
end Go.Proofs.Ythjikjhddddplaa
