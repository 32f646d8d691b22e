/-
  Arq: what its functions yield, in plain terms, 5: slices.Grow; valid receivers.
-/
import Derived.Test.YtofjpelbjehddaaFG1
namespace Go.Proofs.Ytofjpelbjehddaa
set_option linter.unusedVariables false
set_option linter.unusedSimpArgs false
set_option linter.unusedSectionVars false
open Go.RowKit

theorem F46_is {l : List Bool} {n : Int} {K : Kn} (hn : 0 < n) (hr : (l.length : Int) + n ≤ 4294967296) (h : K (.os .boo 0 0 0 l.length) [some (.arr 0 .boo (l ++ List.replicate n.toNat false))]) : F46 (l, n, ()) K := by
  unfold F46
  dsimp only [Lf.ty, prodL]
  have e1 : IntKind.i64.wrap ((l.length : Int) - (l.length : Int)) = 0 := by rw [Int.sub_self]; decide
  have e2 : IntKind.i64.wrap (n - 0) = n := by rw [wrap64 (by omega) (by omega)]; omega
  have e3 : (l.take (l.length : Int).toNat).drop (0 : Int).toNat = l := by rw [Int.toNat_natCast, List.take_of_length_le (Nat.le_refl _)]; rfl
  have e4 : (l.length : Int).toNat - (0 : Int).toNat = l.length := by rw [Int.toNat_natCast]; rfl
  rw [e1, e2, e3, e4, show decide (n < 0) = false from decide_eq_false (by omega), cond_false, decide_eq_true hn, cond_true, show decide ((l.length : Int) = (l.length : Int)) = true by simp, cond_true]
  exact ⟨by decide, by omega, by omega, hn, by omega, by decide, by omega, by rw [List.length_append]; omega, h⟩
def sp46 : Sp := ⟨S46, L46, fun g => 0 < g.2.1 ∧ (g.1.length : Int) + g.2.1 ≤ 4294967296, fun g => .os .boo 0 0 0 g.1.length, fun g => some (.arr 0 .boo (g.1 ++ List.replicate g.2.1.toNat false))⟩
theorem sp46_ok : sp46.Ok Try.prog 46 false :=
  ⟨fun _ _ X hp h => F46_ok _ _ X (F46_is hp.1 hp.2 h), fun _ _ _ => rfl, fun _ => rfl, fun h => by cases h⟩
theorem F47_is {l : List ByteArray} {n : Int} {K : Kn} (hn : 0 < n) (hr : (l.length : Int) + n ≤ 4294967296) (h : K (.os .str 0 0 0 l.length) [some (.arr 0 .str (l ++ List.replicate n.toNat (⟨#[]⟩ : ByteArray)))]) : F47 (l, n, ()) K := by
  unfold F47
  dsimp only [Lf.ty, prodL]
  have e1 : IntKind.i64.wrap ((l.length : Int) - (l.length : Int)) = 0 := by rw [Int.sub_self]; decide
  have e2 : IntKind.i64.wrap (n - 0) = n := by rw [wrap64 (by omega) (by omega)]; omega
  have e3 : (l.take (l.length : Int).toNat).drop (0 : Int).toNat = l := by rw [Int.toNat_natCast, List.take_of_length_le (Nat.le_refl _)]; rfl
  have e4 : (l.length : Int).toNat - (0 : Int).toNat = l.length := by rw [Int.toNat_natCast]; rfl
  rw [e1, e2, e3, e4, show decide (n < 0) = false from decide_eq_false (by omega), cond_false, decide_eq_true hn, cond_true, show decide ((l.length : Int) = (l.length : Int)) = true by simp, cond_true]
  exact ⟨by decide, by omega, by omega, hn, by omega, by decide, by omega, by rw [List.length_append]; omega, h⟩
def sp47 : Sp := ⟨S47, L47, fun g => 0 < g.2.1 ∧ (g.1.length : Int) + g.2.1 ≤ 4294967296, fun g => .os .str 0 0 0 g.1.length, fun g => some (.arr 0 .str (g.1 ++ List.replicate g.2.1.toNat (⟨#[]⟩ : ByteArray)))⟩
theorem sp47_ok : sp47.Ok Try.prog 47 false :=
  ⟨fun _ _ X hp h => F47_ok _ _ X (F47_is hp.1 hp.2 h), fun _ _ _ => rfl, fun _ => rfl, fun h => by cases h⟩

/-! ### Valid receivers -/
def CellOk (r : Rcv) (i : Nat) : Prop := (r.data.getD i ⟨#[]⟩).size ≤ 65472 ∧ (r.have_.getD i false = true ∨ r.data.getD i ⟨#[]⟩ = ⟨#[]⟩)
instance (r : Rcv) (i : Nat) : Decidable (CellOk r i) := by unfold CellOk; infer_instance
def ROk (r : Rcv) : Prop := okN r.next = true ∧ r.data.length = r.have_.length ∧ r.have_.length ≤ 64 ∧ (0 < r.have_.length → r.have_[0]? = some false ∧ r.have_[r.have_.length - 1]? = some true) ∧ ∀ i, i < r.have_.length → CellOk r i
instance (r : Rcv) : Decidable (ROk r) := by unfold ROk; infer_instance
def Rcv.ok (r : Rcv) : Bool := decide (ROk r)
theorem cells_loop {γ : Type} {r : Rcv} {S : Int → γ} {body : (γ → Prop) → γ → Prop} {A B : Prop}
    (h1 : ∀ (W : γ → Prop) (n : Nat) (h : n < r.have_.length), (CellOk r n → W (S ((n + 1 : Nat) : Int))) → (¬ CellOk r n → A) → body W (S (n : Int)))
    (h2 : ∀ (W : γ → Prop), B → body W (S (r.have_.length : Int))) (hA : ¬ (∀ i, i < r.have_.length → CellOk r i) → A) (hB : (∀ i, i < r.have_.length → CellOk r i) → B) : LoopW body (S 0) := by
  refine LoopW.countTo r.have_.length (fun n => S (n : Int)) (fun n => ∀ i, i < n → CellOk r i) rfl (fun n hn hp W hW => ?_) (by omega)
  by_cases hlt : n < r.have_.length
  · refine h1 W n hlt (fun hc => hW hlt fun i hi => ?_) fun hc => hA fun hall => hc (hall n hlt)
    rcases Nat.lt_succ_iff_lt_or_eq.1 hi with h3 | h3
    · exact hp i h3
    · rw [h3]; exact hc
  · have : n = r.have_.length := by omega
    subst this
    exact h2 W (hB hp)
theorem F39_is {r : Rcv} {K : Kn} (h : K (.bool r.ok) []) : F39 (r.next, r.have_, r.data, ()) K := by
  obtain ⟨nx, hv, data⟩ := r
  have ff : ¬ ROk ⟨nx, hv, data⟩ → K (.bool false) [] := fun hne => by unfold Rcv.ok at h; rwa [decide_eq_false hne] at h
  have tt : ROk ⟨nx, hv, data⟩ → K (.bool true) [] := fun hne => by unfold Rcv.ok at h; rwa [decide_eq_true hne] at h
  clear h
  unfold F39 F39_J4
  dsimp only [Lf.ty, prodL] at ff tt ⊢
  refine ⟨trivial, ?_⟩
  cases h1 : okN nx
  · rw [Bool.not_false, cond_true, cond_true]
    exact ff fun hh => by have := hh.1; rw [h1] at this; cases this
  rw [Bool.not_true, cond_false]
  by_cases h2 : data.length = hv.length
  case neg =>
    rw [show decide ((data.length : Int) = (hv.length : Int)) = false from decide_eq_false (by omega), Bool.not_false, cond_true, cond_true]
    exact ff fun hh => h2 hh.2.1
  rw [show decide ((data.length : Int) = (hv.length : Int)) = true from decide_eq_true (by omega), Bool.not_true, cond_false]
  by_cases h3 : 64 < hv.length
  · rw [show decide (64 < (hv.length : Int)) = true from decide_eq_true (by omega), cond_true, cond_true]
    exact ff fun hh => by have := hh.2.2.1; dsimp only at this; omega
  rw [show decide (64 < (hv.length : Int)) = false from decide_eq_false (by omega), cond_false]
  have loop : (0 < hv.length → hv[0]? = some false ∧ hv[hv.length - 1]? = some true) → F39_L6 K (data, (data.length : Int), 0, nx, hv, data, ()) := fun he => by
    unfold F39_L6
    refine cells_loop (r := ⟨nx, hv, data⟩) (S := fun i => (data, (data.length : Int), i, nx, hv, data, ())) (A := K (.bool false) []) (B := K (.bool true) []) (fun W n hlt hW hA => ?_) (fun W hB => ?_) (fun hne => ff fun hh => hne hh.2.2.2.2) fun hall => tt ⟨h1, h2, by show hv.length ≤ 64; omega, he, hall⟩
    · dsimp only at hlt ⊢
      have hd : n < data.length := by omega
      unfold F39_B6 F39_J10
      rw [show decide ((n : Int) < (data.length : Int)) = true from decide_eq_true (by omega), cond_true]
      refine At_of hd ?_
      have e1 : data.getD n ⟨#[]⟩ = data[n] := by simp [hd]
      have e2 : hv.getD n false = hv[n] := by simp [hlt]
      unfold CellOk at hW hA
      dsimp only at hW hA
      rw [e1, e2] at hW hA
      by_cases c1 : 65472 < data[n].size
      · rw [show decide (65472 < (data[n].size : Int)) = true from decide_eq_true (by omega), cond_true, cond_true]
        exact hA fun hh => by omega
      rw [show decide (65472 < (data[n].size : Int)) = false from decide_eq_false (by omega), cond_false]
      refine At_of hlt ?_
      rw [wrapS hd (by omega)]
      cases c2 : hv[n]
      · rw [Bool.not_false, cond_true]
        by_cases c3 : data[n] = ⟨#[]⟩
        · rw [decide_eq_true c3, Bool.not_true, cond_false]
          exact hW ⟨by omega, .inr c3⟩
        · rw [decide_eq_false c3, Bool.not_false, cond_true]
          refine hA fun hh => ?_
          rw [c2] at hh
          exact hh.2.elim (fun h => by cases h) c3
      · rw [Bool.not_true, cond_false, cond_false]
        exact hW ⟨by omega, .inl c2⟩
    · dsimp only
      unfold F39_B6
      rw [show decide ((hv.length : Int) < (data.length : Int)) = false from decide_eq_false (by omega), cond_false]
      exact hB
  by_cases h4 : hv.length = 0
  · rw [show decide (0 < (hv.length : Int)) = false from decide_eq_false (by omega), cond_false, cond_false]
    exact loop fun h => by omega
  rw [show decide (0 < (hv.length : Int)) = true from decide_eq_true (by omega), cond_true]
  have h0 : 0 < hv.length := by omega
  refine At_of (n := 0) h0 ?_
  cases c1 : hv[0]
  case true =>
    rw [cond_true, cond_true]
    refine ff fun hh => ?_
    have := (hh.2.2.2.1 h0).1
    dsimp only at this
    rw [List.getElem?_eq_getElem h0, c1] at this
    cases this
  rw [cond_false]
  rw [wrap64 (n := (hv.length : Int) - 1) (by omega) (by omega), show (hv.length : Int) - 1 = ((hv.length - 1 : Nat) : Int) by omega]
  refine At_of (by omega) ?_
  cases c2 : hv[hv.length - 1]
  · rw [Bool.not_false, cond_true]
    refine ff fun hh => ?_
    have := (hh.2.2.2.1 h0).2
    dsimp only at this
    rw [List.getElem?_eq_getElem (by omega), c2] at this
    cases this
  · rw [Bool.not_true, cond_false]
    exact loop fun _ => ⟨by rw [List.getElem?_eq_getElem h0, c1], by rw [List.getElem?_eq_getElem (by omega), c2]⟩
def sp39 : Sp := ⟨S39, L39, fun _ => True, fun g => .bool (Rcv.ok ⟨g.1, g.2.1, g.2.2.1⟩), fun _ => none⟩
theorem sp39_ok : sp39.Ok Try.prog 39 true :=
  ⟨fun g _ X _ h => F39_ok _ _ X (F39_is (r := ⟨g.1, g.2.1, g.2.2.1⟩) h), fun _ _ _ => rfl, fun _ => rfl, fun _ _ => ⟨rfl, rfl⟩⟩
theorem F43_is {r : Rcv} {K : Kn} (h : K (.bool r.ok) []) : F43 (r.next, r.have_, r.data, ()) K := by
  obtain ⟨nx, hv, data⟩ := r
  have ff : ¬ ROk ⟨nx, hv, data⟩ → K (.bool false) [] := fun hne => by unfold Rcv.ok at h; rwa [decide_eq_false hne] at h
  have tt : ROk ⟨nx, hv, data⟩ → K (.bool true) [] := fun hne => by unfold Rcv.ok at h; rwa [decide_eq_true hne] at h
  clear h
  unfold F43 F43_J2
  dsimp only [Lf.ty, prodL] at ff tt ⊢
  refine ⟨trivial, ?_⟩
  cases h1 : okN nx
  · rw [Bool.not_false, cond_true, cond_true]
    exact ff fun hh => by have := hh.1; rw [h1] at this; cases this
  rw [Bool.not_true, cond_false]
  by_cases h2 : data.length = hv.length
  case neg =>
    rw [show decide ((hv.length : Int) = (data.length : Int)) = false from decide_eq_false (by omega), Bool.not_false, cond_true, cond_true]
    exact ff fun hh => h2 hh.2.1
  rw [show decide ((hv.length : Int) = (data.length : Int)) = true from decide_eq_true (by omega), Bool.not_true, cond_false]
  by_cases h3 : 64 < hv.length
  · rw [show decide (64 < (hv.length : Int)) = true from decide_eq_true (by omega), cond_true]
    exact ff fun hh => by have := hh.2.2.1; dsimp only at this; omega
  rw [show decide (64 < (hv.length : Int)) = false from decide_eq_false (by omega), cond_false]
  unfold F43_L4
  refine cells_loop (r := ⟨nx, hv, data⟩) (S := fun i => (i, nx, hv, data, ())) (A := K (.bool false) []) (B := (∀ i, i < hv.length → CellOk ⟨nx, hv, data⟩ i)) (fun W n hlt hW hA => ?_) (fun W hB => ?_) (fun hne => ff fun hh => hne hh.2.2.2.2) fun hall => hall
  · dsimp only at hlt ⊢
    have hd : n < data.length := by omega
    unfold F43_B4 F43_J9
    rw [show decide ((n : Int) < (hv.length : Int)) = true from decide_eq_true (by omega), cond_true]
    refine At_of hd ⟨trivial, ?_⟩
    have e1 : data.getD n ⟨#[]⟩ = data[n] := by simp [hd]
    have e2 : hv.getD n false = hv[n] := by simp [hlt]
    unfold CellOk at hW hA
    dsimp only at hW hA
    rw [e1, e2] at hW hA
    by_cases c1 : 65472 < data[n].size
    · rw [show fitsB data[n] = false by unfold fitsB; simp; omega, Bool.not_false, cond_true, cond_true]
      exact hA fun hh => by omega
    rw [show fitsB data[n] = true by unfold fitsB; simp; omega, Bool.not_true, cond_false]
    refine At_of hlt ?_
    rw [wrapS hlt (by omega)]
    cases c2 : hv[n]
    · rw [Bool.not_false, cond_true]
      refine At_of hd ?_
      by_cases c3 : data[n] = ⟨#[]⟩
      · rw [decide_eq_true c3, Bool.not_true, cond_false]
        exact hW ⟨by omega, .inr c3⟩
      · rw [decide_eq_false c3, Bool.not_false, cond_true]
        refine hA fun hh => ?_
        rw [c2] at hh
        exact hh.2.elim (fun h => by cases h) c3
    · rw [Bool.not_true, cond_false, cond_false]
      exact hW ⟨by omega, .inl c2⟩
  · dsimp only at hB ⊢
    unfold F43_B4
    rw [show decide ((hv.length : Int) < (hv.length : Int)) = false by simp, cond_false]
    by_cases h4 : hv.length = 0
    · rw [show decide ((hv.length : Int) = 0) = true from decide_eq_true (by omega), cond_true]
      exact tt ⟨h1, h2, by show hv.length ≤ 64; omega, fun h => by dsimp only at h; omega, hB⟩
    rw [show decide ((hv.length : Int) = 0) = false from decide_eq_false (by omega), cond_false]
    have h0 : 0 < hv.length := by omega
    refine At_of (n := 0) h0 ?_
    cases c1 : hv[0]
    case true =>
      rw [Bool.not_true, cond_false]
      refine ff fun hh => ?_
      have := (hh.2.2.2.1 h0).1
      dsimp only at this
      rw [List.getElem?_eq_getElem h0, c1] at this
      cases this
    rw [Bool.not_false, cond_true]
    rw [wrap64 (n := (hv.length : Int) - 1) (by omega) (by omega), show (hv.length : Int) - 1 = ((hv.length - 1 : Nat) : Int) by omega]
    refine At_of (by omega) ?_
    cases c2 : hv[hv.length - 1]
    · refine ff fun hh => ?_
      have := (hh.2.2.2.1 h0).2
      dsimp only at this
      rw [List.getElem?_eq_getElem (by omega), c2] at this
      cases this
    · exact tt ⟨h1, h2, by show hv.length ≤ 64; omega, fun _ => ⟨by dsimp only; rw [List.getElem?_eq_getElem h0, c1], by dsimp only; rw [List.getElem?_eq_getElem (by omega), c2]⟩, hB⟩
def sp43 : Sp := ⟨S43, L43, fun _ => True, fun g => .bool (Rcv.ok ⟨g.1, g.2.1, g.2.2.1⟩), fun _ => none⟩
theorem sp43_ok : sp43.Ok Try.prog 43 true :=
  ⟨fun g _ X _ h => F43_ok _ _ X (F43_is (r := ⟨g.1, g.2.1, g.2.2.1⟩) h), fun _ _ _ => rfl, fun _ => rfl, fun _ _ => ⟨rfl, rfl⟩⟩
end Go.Proofs.Ytofjpelbjehddaa
