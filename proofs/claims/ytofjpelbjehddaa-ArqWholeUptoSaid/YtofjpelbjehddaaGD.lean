/-
  Arq: receivers that come to hold the first strings; the law ArqOrder.
-/
import Derived.Test.YtofjpelbjehddaaGC
import Derived.Test.YtofjpelbjehddaaFJ2
namespace Go.Proofs.Ytofjpelbjehddaa
set_option linter.unusedVariables false
set_option linter.unusedSimpArgs false
open Go.RowKit

theorem putL_get {α : Type} {z : α} {l : List α} {i : Nat} {x : α} {j : Nat} : (putL z l i x)[j]? = if j = i then some x else if j < l.length then l[j]? else if j ≤ i then some z else none := by
  unfold putL
  rw [List.getElem?_set]
  by_cases hj : i = j
  · subst hj
    rw [if_pos rfl, if_pos rfl, if_pos (by simp; omega)]
  · rw [if_neg hj, if_neg (fun e => hj e.symm)]
    by_cases h1 : j < l.length
    · rw [if_pos h1, List.getElem?_append_left h1]
    · rw [if_neg h1, List.getElem?_append_right (by omega), List.getElem?_replicate]
      by_cases h2 : j ≤ i
      · rw [if_pos h2, if_pos (by omega)]
      · rw [if_neg h2, if_neg (by omega)]
/-- A receiver holds strings of a list, of which p have been delivered. -/
structure RInv (D : List ByteArray) (r : Rcv) (p : Nat) : Prop where
  next : r.next = (p : Int)
  ok : ROk r
  len : p + r.have_.length ≤ D.length
  val : ∀ i : Nat, r.have_[i]? = some true → r.data[i]? = D[p + i]?
def Known (r : Rcv) (p j : Nat) : Prop := j < p ∨ ∃ i, j = p + i ∧ r.have_[i]? = some true
theorem cell_of {r : Rcv} {i : Nat} (h1 : ∃ d, r.data[i]? = some d ∧ d.size ≤ 65472 ∧ (r.have_[i]? = some true ∨ d = ⟨#[]⟩)) : CellOk r i := by
  obtain ⟨d, h1, h2, h3⟩ := h1
  unfold CellOk
  rw [List.getD_eq_getElem?_getD, List.getD_eq_getElem?_getD, h1]
  refine ⟨h2, ?_⟩
  rcases h3 with h3 | h3
  · rw [h3]; exact .inl rfl
  · exact .inr h3
theorem accept_inv {D : List ByteArray} {r : Rcv} {p k : Nat} {u : ByteArray} (hI : RInv D r p) (hk : D[k]? = some u) (hw : k < p + 64) (hD : D.length ≤ 1000000) (hsz : ∀ d ∈ D, d.size ≤ 65472) :
    ∃ (p' : Nat) (r' : Rcv), acceptOf r ⟨false, (k : Int), u⟩ = (r', (D.drop p).take (p' - p), ⟨true, (p' : Int), ⟨#[]⟩⟩, 0) ∧ p ≤ p' ∧ RInv D r' p' ∧ (∀ j, Known r p j → Known r' p' j) ∧ Known r' p' k ∧ ∀ j, Known r' p' j → Known r p j ∨ j = k := by
  obtain ⟨hn, hok, hlen, hval⟩ := id hI
  obtain ⟨o1, o2, o3, o4, o5⟩ := id hok
  have hkD : k < D.length := (List.getElem?_eq_some_iff.1 hk).1
  have hu : u.size ≤ 65472 := hsz u (List.mem_of_getElem? hk)
  have he : accErr r ⟨false, (k : Int), u⟩ = 0 := accErr_iff.2 ⟨hok, rfl, by dsimp only; omega, by dsimp only; omega, hu, by dsimp only; omega⟩
  unfold acceptOf
  rw [if_neg (by simp [he])]
  dsimp only
  by_cases hc : (k : Int) - r.next < 0 ∨ r.have_[((k : Int) - r.next).toNat]? = some true
  · rw [if_pos hc]
    refine ⟨p, r, ?_, Nat.le_refl _, hI, fun _ h => h, ?_, fun _ h => .inl h⟩
    · rw [Nat.sub_self, List.take_zero, hn]
    · rcases hc with hc | hc
      · exact .inl (by omega)
      · by_cases hlt : k < p
        · exact .inl hlt
        · exact .inr ⟨k - p, by omega, by rw [hn, show ((k : Int) - (p : Int)).toNat = k - p by omega] at hc; exact hc⟩
  · rw [if_neg hc]
    have hge : p ≤ k := by
      rcases Nat.lt_or_ge k p with h | h
      · exact absurd (.inl (by omega)) hc
      · exact h
    have hi : ((k : Int) - r.next).toNat = k - p := by omega
    rw [hi] at hc ⊢
    have hcn : ¬ r.have_[k - p]? = some true := fun h => hc (.inr h)
    generalize hii : k - p = i at *
    have hki : k = p + i := by omega
    have hHl : (putL false r.have_ i true).length = max r.have_.length (i + 1) := putL_len
    have hEl : (putL (⟨#[]⟩ : ByteArray) r.data i u).length = max r.data.length (i + 1) := putL_len
    have key : ∀ j, (putL false r.have_ i true)[j]? = some true → (putL (⟨#[]⟩ : ByteArray) r.data i u)[j]? = D[p + j]? := fun j hj => by
      rw [putL_get] at hj ⊢
      by_cases h1 : j = i
      · rw [if_pos h1, h1, ← hki, hk]
      · rw [if_neg h1] at hj ⊢
        by_cases h2 : j < r.have_.length
        · rw [if_pos h2] at hj
          rw [if_pos (by omega)]
          exact hval j hj
        · rw [if_neg h2] at hj
          split at hj <;> cases hj
    have old : ∀ j, r.have_[j]? = some true → (putL false r.have_ i true)[j]? = some true := fun j hj => by
      rw [putL_get]
      by_cases h1 : j = i
      · rw [if_pos h1]
      · rw [if_neg h1, if_pos (List.getElem?_eq_some_iff.1 hj).1, hj]
    have conv : ∀ j, (putL false r.have_ i true)[j]? = some true → j = i ∨ r.have_[j]? = some true := fun j hj => by
      rw [putL_get] at hj
      by_cases h1 : j = i
      · exact .inl h1
      · rw [if_neg h1] at hj
        by_cases h2 : j < r.have_.length
        · rw [if_pos h2] at hj; exact .inr hj
        · rw [if_neg h2] at hj
          split at hj <;> cases hj
    have new : (putL false r.have_ i true)[i]? = some true := by rw [putL_get, if_pos rfl]
    have last : (putL false r.have_ i true)[(putL false r.have_ i true).length - 1]? = some true := by
      rw [hHl, putL_get]
      by_cases h1 : max r.have_.length (i + 1) - 1 = i
      · rw [if_pos h1]
      · rw [if_neg h1, if_pos (by omega)]
        have := (o4 (by omega)).2
        rw [show max r.have_.length (i + 1) = r.have_.length by omega]
        exact this
    have cells : ∀ q, q < (putL false r.have_ i true).length → ∃ d, (putL (⟨#[]⟩ : ByteArray) r.data i u)[q]? = some d ∧ d.size ≤ 65472 ∧ ((putL false r.have_ i true)[q]? = some true ∨ d = ⟨#[]⟩) := fun q hq => by
      by_cases ht : (putL false r.have_ i true)[q]? = some true
      · have e := key q ht
        rw [hHl] at hq
        have hq2 : p + q < D.length := by omega
        rw [List.getElem?_eq_getElem hq2] at e
        exact ⟨_, e, hsz _ (List.getElem_mem hq2), .inl ht⟩
      · have hqi : q ≠ i := by rintro rfl; exact ht new
        rw [putL_get, if_neg hqi]
        by_cases h2 : q < r.data.length
        · rw [if_pos h2]
          have hc2 := o5 q (by omega)
          unfold CellOk at hc2
          rw [List.getD_eq_getElem?_getD, List.getD_eq_getElem?_getD, List.getElem?_eq_getElem h2, List.getElem?_eq_getElem (show q < r.have_.length by omega)] at hc2
          simp only [Option.getD_some] at hc2
          refine ⟨_, List.getElem?_eq_getElem h2, hc2.1, ?_⟩
          rcases hc2.2 with h3 | h3
          · exact absurd (old q (by rw [List.getElem?_eq_getElem (show q < r.have_.length by omega), h3])) ht
          · exact .inr h3
        · rw [if_neg h2, if_pos (by omega)]
          exact ⟨_, rfl, by decide, .inr rfl⟩
    clear hc hval o5 o4
    generalize putL false r.have_ i true = H at *
    generalize putL (⟨#[]⟩ : ByteArray) r.data i u = E at *
    have hnle : H.idxOf false ≤ H.length := List.idxOf_le_length
    have lead : ∀ j, j < H.idxOf false → H[j]? = some true := fun j hj => lead_get hj
    have ended : H.idxOf false < H.length → H[H.idxOf false]? = some false := lead_end
    generalize H.idxOf false = n at *
    have hEn : E.length = H.length := by omega
    have htake : E.take n = (D.drop p).take n := by
      refine List.ext_getElem? fun j => ?_
      by_cases hj : j < n
      · rw [List.getElem?_take_of_lt hj, List.getElem?_take_of_lt hj, List.getElem?_drop]
        exact key j (lead j hj)
      · rw [List.getElem?_eq_none (by simp; omega), List.getElem?_eq_none (by simp; omega)]
    have kn : ∀ j, H[j]? = some true → Known ⟨r.next + (n : Int), H.drop n, E.drop n⟩ (p + n) (p + j) := fun j hj => by
      by_cases h1 : j < n
      · exact .inl (by omega)
      · refine .inr ⟨j - n, by omega, ?_⟩
        dsimp only
        rw [List.getElem?_drop, show n + (j - n) = j by omega]
        exact hj
    refine ⟨p + n, ⟨r.next + (n : Int), H.drop n, E.drop n⟩, ?_, by omega, ⟨by dsimp only; omega, ⟨decide_eq_true ⟨by dsimp only; omega, by dsimp only; omega⟩, by dsimp only; rw [List.length_drop, List.length_drop, hEn], by dsimp only; rw [List.length_drop]; omega, fun hpos => ?_, fun j hj => ?_⟩, by dsimp only; rw [List.length_drop]; omega, fun j hj => ?_⟩, fun j hj => ?_, ?_, fun j hj => ?_⟩
    · rw [htake, Nat.add_sub_cancel_left, hn, ← Int.natCast_add]
    · dsimp only at hpos ⊢
      rw [List.length_drop] at hpos
      rw [List.getElem?_drop, List.getElem?_drop, List.length_drop]
      refine ⟨ended (by omega), ?_⟩
      rw [show n + (H.length - n - 1) = H.length - 1 by omega]
      exact last
    · dsimp only at hj
      rw [List.length_drop] at hj
      obtain ⟨d, d1, d2, d3⟩ := cells (n + j) (by omega)
      exact cell_of ⟨d, by dsimp only; rw [List.getElem?_drop]; exact d1, d2, by dsimp only; rw [List.getElem?_drop]; exact d3⟩
    · dsimp only at hj ⊢
      rw [List.getElem?_drop] at hj ⊢
      rw [Nat.add_assoc]
      exact key _ hj
    · rcases hj with hj | ⟨i', rfl, hj⟩
      · exact .inl (by omega)
      · exact kn i' (old i' hj)
    · rw [hki]; exact kn i new
    · have back : ∀ i', H[i']? = some true → Known r p (p + i') ∨ p + i' = k := fun i' h => by
        rcases conv i' h with h1 | h1
        · exact .inr (by omega)
        · exact .inl (.inr ⟨i', rfl, h1⟩)
      rcases hj with hj | ⟨i', hj, h2⟩
      · by_cases h1 : j < p
        · exact .inl (.inl h1)
        · have := back (j - p) (lead _ (by omega))
          rwa [show p + (j - p) = j by omega] at this
      · dsimp only at h2
        rw [List.getElem?_drop] at h2
        have := back (n + i') h2
        rwa [show p + (n + i') = j by omega] at this
theorem known_all {D : List ByteArray} {r : Rcv} {p : Nat} (h : RInv D r p) (hp : p ≤ D.length) (ha : ∀ j, j < D.length → Known r p j) : p = D.length ∧ r.have_ = [] := by
  have hp' : p = D.length := by
    rcases Nat.lt_or_ge p D.length with hlt | hge
    · rcases ha p hlt with h1 | ⟨i, h1, h2⟩
      · omega
      · have : i = 0 := by omega
        subst this
        have := (h.ok.2.2.2.1 (List.getElem?_eq_some_iff.1 h2).1).1
        rw [h2] at this
        cases this
    · omega
  have := h.len
  exact ⟨hp', List.eq_nil_of_length_eq_zero (by omega)⟩
theorem RInv.zero (D : List ByteArray) : RInv D ⟨0, [], []⟩ 0 :=
  ⟨rfl, ⟨rfl, rfl, Nat.zero_le _, fun h => absurd h (Nat.lt_irrefl 0), fun i h => absurd h (Nat.not_lt_zero i)⟩, Nat.zero_le _, fun i h => by simp at h⟩
end Go.Proofs.Ytofjpelbjehddaa
