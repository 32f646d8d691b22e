/-
  Arq: what its functions yield, in plain terms, 8: the reference's Accept.
-/
import Derived.Test.YtofjpelbjehddaaFY
import Derived.Test.YtofjpelbjehddaaFH2
namespace Go.Proofs.Ytofjpelbjehddaa
set_option linter.unusedVariables false
set_option linter.unusedSimpArgs false
set_option linter.unusedSectionVars false
open Go.RowKit

theorem lead_get {H : List Bool} {n : Nat} (h : n < H.idxOf false) : H[n]? = some true := by
  induction H generalizing n with
  | nil => simp at h
  | cons b H ih =>
    cases b with
    | false => simp [List.idxOf_cons] at h
    | true =>
      cases n with
      | zero => rfl
      | succ n =>
        rw [List.getElem?_cons_succ]
        refine ih ?_
        simp [List.idxOf_cons] at h
        omega
theorem lead_end {H : List Bool} (h : H.idxOf false < H.length) : H[H.idxOf false]? = some false := by
  rw [List.getElem?_eq_getElem h]
  have := List.getElem_idxOf h
  rw [this]
theorem F25_is {r : Rcv} {f : Frm} {K : Kn} (h : K (accT (acceptOf r f)) []) : F25 (r.next, r.have_, r.data, f.ack, f.number, f.data, ()) (wkK K) := by
  obtain ⟨nx, hv, data⟩ := r
  obtain ⟨a, m, d⟩ := f
  have err : ∀ {e : Int}, e ≠ 0 → accErr ⟨nx, hv, data⟩ ⟨a, m, d⟩ = e → F25_J16 (wkK K) e nx hv data a m d 0 false 0 ⟨#[]⟩ := fun {e} he hh => by
    unfold acceptOf at h
    rw [hh, if_pos he] at h
    unfold F25_J16
    rw [decide_eq_false he, Bool.not_false, cond_true]
    exact wk_acc h
  unfold F25
  dsimp only [Lf.ty, prodL]
  refine ⟨trivial, ?_⟩
  unfold accErr at err
  cases h1 : Rcv.ok ⟨nx, hv, data⟩
  · rw [Bool.not_false, cond_true]
    exact err (by decide) (by rw [if_pos h1])
  rw [Bool.not_true, cond_false]
  rw [if_neg (by rw [h1]; decide)] at err
  cases a
  case true =>
    rw [cond_true]
    exact err (by decide) (by rw [if_pos rfl])
  rw [cond_false]
  rw [if_neg (by simp)] at err
  unfold F25_J2
  by_cases h2 : m < 0
  · rw [decide_eq_true h2, cond_true, cond_true]
    exact err (by decide) (by rw [if_pos (.inl h2)])
  rw [decide_eq_false h2, cond_false]
  by_cases h3 : 1099511627776 ≤ m
  · rw [decide_eq_true h3, cond_true]
    exact err (by decide) (by rw [if_pos (.inr h3)])
  rw [decide_eq_false h3, cond_false]
  rw [if_neg (by dsimp only; omega)] at err
  refine ⟨trivial, ?_⟩
  by_cases h4 : 65472 < d.size
  · rw [show fitsB d = false by unfold fitsB; simp; omega, Bool.not_false, cond_true]
    exact err (by decide) (by rw [if_pos h4])
  rw [show fitsB d = true by unfold fitsB; simp; omega, Bool.not_true, cond_false]
  rw [if_neg h4] at err
  obtain ⟨k1, k2, k3, k4, k5⟩ : ROk ⟨nx, hv, data⟩ := of_decide_eq_true h1
  dsimp only at k2 k3
  have k1 := of_decide_eq_true k1
  dsimp only at k1
  rw [wrap64 (by omega) (by omega)]
  by_cases h5 : nx + 64 ≤ m
  · rw [decide_eq_true h5, cond_true]
    exact err (by decide) (by rw [if_pos h5])
  rw [decide_eq_false h5, cond_false]
  clear err
  have he : accErr ⟨nx, hv, data⟩ ⟨false, m, d⟩ = 0 := by
    unfold accErr
    rw [if_neg (by rw [h1]; decide), if_neg (by simp), if_neg (by dsimp only; omega), if_neg h4, if_neg h5]
  unfold acceptOf at h
  rw [he, if_neg (by decide)] at h
  dsimp only at h
  unfold F25_J16
  rw [decide_eq_true rfl, Bool.not_true, cond_false, wrap64 (by omega) (by omega)]
  unfold F25_J6
  by_cases h6 : m - nx < 0
  · rw [if_pos (.inl h6)] at h
    rw [decide_eq_true h6, cond_true, cond_true]
    exact wk_acc2 h
  rw [decide_eq_false h6, cond_false]
  obtain ⟨i, hi⟩ := Int.eq_ofNat_of_zero_le (a := m - nx) (by omega)
  rw [hi, Int.toNat_natCast] at h
  rw [hi]
  have hi64 : i < 64 := by omega
  have tail : ¬ hv[i]? = some true → Room hv.length 1 (Room data.length 16 (F25_L8 (wkK K) ((i : Int), nx, hv, data, false, m, d, 0, false, 0, ⟨#[]⟩, hv, data, ()))) := fun hn => by
    rw [if_neg (by rintro (h7 | h7); omega; exact hn h7)] at h
    have l1 : (putL false hv i true).length = max hv.length (i + 1) := putL_len
    have l2 : (putL (⟨#[]⟩ : ByteArray) data i d).length = max data.length (i + 1) := putL_len
    refine ⟨by omega, by omega, ?_⟩
    unfold F25_L8
    refine LoopW.countTo (i + 1 - hv.length) (fun k => ((i : Int), nx, hv, data, false, m, d, 0, false, 0, ⟨#[]⟩, hv ++ List.replicate k false, data ++ List.replicate k ⟨#[]⟩, ())) (fun _ => True) (by simp) (fun k hk _ W hW => ?_) trivial
    dsimp only
    unfold F25_B8
    have l3 : (hv ++ List.replicate k false).length = hv.length + k := by simp
    have l4 : (data ++ List.replicate k (⟨#[]⟩ : ByteArray)).length = data.length + k := by simp
    rw [l3, l4]
    by_cases hlt : hv.length + k ≤ i
    · rw [show decide (((hv.length + k : Nat) : Int) ≤ (i : Int)) = true from decide_eq_true (by omega), cond_true]
      have hW := hW (by omega) trivial
      rw [List.replicate_succ', List.replicate_succ', ← List.append_assoc, ← List.append_assoc] at hW
      exact ⟨by simp only [List.length_singleton]; omega, by simp only [List.length_singleton]; omega, hW⟩
    · rw [show decide (((hv.length + k : Nat) : Int) ≤ (i : Int)) = false from decide_eq_false (by omega), cond_false]
      have hke : k = i + 1 - hv.length := by omega
      rw [Int.toNat_natCast]
      refine ⟨by omega, by omega, _, List.getElem?_eq_getElem (by omega), by omega, by omega, _, List.getElem?_eq_getElem (by omega), ?_⟩
      have e1 : (hv ++ List.replicate k false).set i true = putL false hv i true := by rw [hke]; rfl
      have e2 : (data ++ List.replicate k (⟨#[]⟩ : ByteArray)).set i d = putL ⟨#[]⟩ data i d := by rw [hke, ← k2]; rfl
      rw [e1, e2]
      generalize putL false hv i true = H at *
      generalize putL (⟨#[]⟩ : ByteArray) data i d = Dd at *
      have hle : H.idxOf false ≤ H.length := List.idxOf_le_length
      unfold F25_L12
      refine LoopW.countTo (H.idxOf false) (fun n => ((n : Int), nx, hv, data, 0, false, 0, ⟨#[]⟩, H, Dd, ())) (fun _ => True) rfl (fun n hn _ W hW => ?_) trivial
      dsimp only
      have fin : n = H.idxOf false → F25_J15 (wkK K) (n : Int) nx hv data 0 false 0 ⟨#[]⟩ H Dd := fun hn => by
        unfold F25_J15
        rw [wrap64 (n := nx + (n : Int)) (by omega) (by omega), Int.toNat_natCast, Int.toNat_zero, List.drop_zero, Int.toNat_natCast, Int.toNat_natCast, Nat.sub_zero]
        rw [List.take_of_length_le (i := H.length - n) (by rw [List.length_drop]; omega), List.take_of_length_le (i := Dd.length - n) (by rw [List.length_drop]; omega)]
        rw [← hn] at h
        exact ⟨by omega, by omega, by omega, by omega, by omega, by omega, by omega, by omega, by omega, wkK.same h⟩
      unfold F25_B12
      by_cases hlt2 : n < H.idxOf false
      · have hg := lead_get hlt2
        rw [show decide ((n : Int) < (H.length : Int)) = true from decide_eq_true (by omega), cond_true]
        refine atI_of hg ?_
        rw [cond_true, wrapS hlt2 (by omega)]
        exact hW hlt2 trivial
      · have hne : n = H.idxOf false := by omega
        by_cases hl : n < H.length
        · have hg := lead_end (by rw [← hne]; exact hl)
          rw [← hne] at hg
          rw [show decide ((n : Int) < (H.length : Int)) = true from decide_eq_true (by omega), cond_true]
          refine atI_of hg ?_
          rw [cond_false]
          exact fin hne
        · rw [show decide ((n : Int) < (H.length : Int)) = false from decide_eq_false (by omega), cond_false]
          exact fin hne
  by_cases h7 : i < hv.length
  · rw [show decide ((i : Int) < (hv.length : Int)) = true from decide_eq_true (by omega), cond_true]
    refine At_of h7 ?_
    cases h8 : hv[i]
    · rw [cond_false]
      exact tail (by rw [List.getElem?_eq_getElem h7, h8]; simp)
    · rw [cond_true]
      rw [if_pos (.inr (by rw [List.getElem?_eq_getElem h7, h8]))] at h
      exact wk_acc2 h
  · rw [show decide ((i : Int) < (hv.length : Int)) = false from decide_eq_false (by omega), cond_false, cond_false]
    exact tail (by rw [List.getElem?_eq_none (by omega)]; simp)
def sp25 : Sp := ⟨S25, L25, fun _ => True, fun g => accT (acceptOf ⟨g.1, g.2.1, g.2.2.1⟩ ⟨g.2.2.2.1, g.2.2.2.2.1, g.2.2.2.2.2.1⟩), fun _ => none⟩
theorem sp25_ok : sp25.Ok Try.prog 25 false :=
  ⟨fun g _ X _ h => FCalls.weak (F25_ok _ _ X (F25_is (r := ⟨g.1, g.2.1, g.2.2.1⟩) (f := ⟨g.2.2.2.1, g.2.2.2.2.1, g.2.2.2.2.2.1⟩) h)), fun _ _ _ => rfl, fun _ => rfl, fun h => by cases h⟩
end Go.Proofs.Ytofjpelbjehddaa
