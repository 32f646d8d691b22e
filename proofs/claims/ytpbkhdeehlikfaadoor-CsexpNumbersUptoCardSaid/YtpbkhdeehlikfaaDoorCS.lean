/-
  Csexp: Int (the reference's); the two checks agree.
-/
import Derived.Test.YtpbkhdeehlikfaaDoorFK
namespace Go.Proofs.YtpbkhdeehlikfaaDoor
set_option linter.unusedVariables false
set_option linter.unusedSimpArgs false
set_option linter.unusedSectionVars false
open Go.RowKit

def sp19 : Sp := ⟨S19, L19, fun g => intP g.1, sp18.res, fun _ => none⟩
theorem sp19_ok : sp19.Ok Tryd.prog 19 false :=
  ⟨by
    rintro ⟨n, ⟨⟩⟩ K X q1 h
    have h : K (.tu [.ag [.bool (intB n).1.isList, .str (intB n).1.atom, .sl false .sexp (intB n).1.list], .int .i64 (intB n).2]) [] := h
    refine FCalls.weak (F19_ok (n, ()) (wkK K) X ?_)
    unfold F19
    dsimp only
    rw [bif_dec]
    unfold intB at h
    by_cases h1 : n < -1099511627776
    · rw [if_pos (.inl h1)] at h
      rw [if_pos h1]
      exact wkK_nil2 h
    · rw [if_neg h1]
      unfold F19_J2
      rw [bif_dec]
      by_cases h2 : 1099511627776 < n
      · rw [if_pos (.inr h2)] at h
        rw [if_pos h2]
        exact wkK_nil2 h
      · rw [if_neg (fun e => e.elim h1 h2)] at h
        rw [if_neg h2]
        exact ⟨q1, wkK_nil2 h⟩, fun _ _ _ => rfl, fun _ => rfl, fun h => (by cases h)⟩

mutual
/-- Nodes, and depth, of what a count goes through. -/
def nn : Sx → Nat
  | ⟨b, _, l⟩ => if b = false then 1 else 1 + nns l
def nns : List Sx → Nat
  | [] => 0
  | x :: l => nn x + nns l
end
mutual
def dd : Sx → Nat
  | ⟨b, _, l⟩ => if b = false then 1 else 1 + dds l
def dds : List Sx → Nat
  | [] => 0
  | x :: l => max (dd x) (dds l)
end
theorem nn_pos (x : Sx) : 1 ≤ nn x := by
  obtain ⟨b, a, l⟩ := x
  simp only [nn]
  split <;> omega
theorem dd_pos (x : Sx) : 1 ≤ dd x := by
  obtain ⟨b, a, l⟩ := x
  simp only [dd]
  split <;> omega
mutual
theorem cnt_small : ∀ (x : Sx) (m d : Int), (nn x : Int) ≤ m → (dd x : Int) ≤ d → cnt x m d = nn x
  | ⟨b, a, l⟩, m, d, h1, h2 => by
    simp only [nn, dd, cnt] at *
    by_cases hb : b = false
    · rw [if_pos hb] at h1 h2 ⊢
      rw [if_neg (by omega), if_pos hb]; rfl
    · rw [if_neg hb] at h1 h2 ⊢
      rw [if_neg (by omega), if_neg hb, cnts_small l m (d - 1) 1 (by omega) (by omega)]; omega
theorem cnts_small : ∀ (l : List Sx) (m d n : Int), n + (nns l : Int) ≤ m → (dds l : Int) ≤ d → cnts l m d n = n + nns l
  | [], m, d, n, _, _ => by simp [cnts, nns]
  | x :: l, m, d, n, h1, h2 => by
    simp only [nns, dds, cnts] at *
    rw [if_pos (by omega), cnt_small x (m - n) d (by omega) (by omega), cnts_small l m d _ (by omega) (by omega)]; omega
end
theorem cnts_over : ∀ (l : List Sx) (m d n : Int), m < n → cnts l m d n = n
  | [], _, _, _, _ => rfl
  | x :: l, m, d, n, h => by simp only [cnts]; rw [if_neg (by omega)]
mutual
theorem cnt_in : ∀ (x : Sx) (m d : Int), 0 ≤ m → cnt x m d ≤ m → (nn x : Int) ≤ m ∧ (dd x : Int) ≤ d
  | ⟨b, a, l⟩, m, d, h0, h => by
    simp only [nn, dd, cnt] at *
    by_cases hc : d < 1 ∨ m < 1
    · rw [if_pos hc] at h; omega
    · rw [if_neg hc] at h
      by_cases hb : b = false
      · rw [if_pos hb, if_pos hb]; omega
      · rw [if_neg hb] at h
        rw [if_neg hb, if_neg hb]
        have := cnts_in l m (d - 1) 1 (by omega) (by omega) h
        omega
theorem cnts_in : ∀ (l : List Sx) (m d n : Int), n ≤ m → 0 ≤ d → cnts l m d n ≤ m → n + (nns l : Int) ≤ m ∧ (dds l : Int) ≤ d
  | [], m, d, n, h0, hd, _ => by simp only [nns, dds]; omega
  | x :: l, m, d, n, h0, hd, h => by
    simp only [nns, dds, cnts] at *
    rw [if_pos h0] at h
    by_cases hc : n + cnt x (m - n) d ≤ m
    · obtain ⟨k1, k2⟩ := cnt_in x (m - n) d (by omega) (by omega)
      rw [cnt_small x (m - n) d k1 k2] at h hc
      have := cnts_in l m d _ hc hd h
      omega
    · rw [cnts_over l m d _ (by omega)] at h
      omega
end
theorem madds_over : ∀ (l : List Sx) (n d : Int), madds l n true d = (n, true)
  | [], _, _ => rfl
  | x :: l, n, d => by simp only [madds, if_true]
mutual
theorem madd_is : ∀ (x : Sx) (n d : Int), (n + (nn x : Int) ≤ 20000 ∧ (dd x : Int) + d - 1 ≤ 12 → madd x n false d = (n + nn x, false)) ∧ ((madd x n false d).2 = false → n + (nn x : Int) ≤ 20000 ∧ (dd x : Int) + d - 1 ≤ 12)
  | ⟨b, a, l⟩, n, d => by
    simp only [nn, dd, madd]
    by_cases hb : b = false
    · simp only [if_pos hb, Bool.false_or]
      refine ⟨fun h => ?_, fun h => ?_⟩
      · rw [decide_eq_false (by omega)]; rfl
      · have := of_decide_eq_false h; omega
    · simp only [if_neg hb, Bool.false_or]
      by_cases hc : 20000 < n + 1 ∨ 12 < d
      · rw [decide_eq_true hc, madds_over]
        exact ⟨fun h => by omega, fun h => by cases h⟩
      · rw [decide_eq_false hc]
        obtain ⟨k1, k2⟩ := madds_is l (n + 1) (d + 1) (by omega) (by omega)
        refine ⟨fun h => ?_, fun h => ?_⟩
        · rw [k1 (by omega)]
          simp only [Prod.mk.injEq, and_true]; omega
        · have := k2 h; omega
theorem madds_is : ∀ (l : List Sx) (n d : Int), n ≤ 20000 → d ≤ 13 → (n + (nns l : Int) ≤ 20000 ∧ (dds l : Int) + d - 1 ≤ 12 → madds l n false d = (n + nns l, false)) ∧ ((madds l n false d).2 = false → n + (nns l : Int) ≤ 20000 ∧ (dds l : Int) + d - 1 ≤ 12)
  | [], n, d, hn, hd => by
    simp only [nns, dds, madds]
    exact ⟨fun _ => by simp, fun _ => by omega⟩
  | x :: l, n, d, hn, hd => by
    simp only [nns, dds, madds]
    rw [if_neg (by simp)]
    obtain ⟨k1, k2⟩ := madd_is x n d
    have hp := nn_pos x
    by_cases hx : n + (nn x : Int) ≤ 20000 ∧ (dd x : Int) + d - 1 ≤ 12
    · rw [k1 hx]
      obtain ⟨m1, m2⟩ := madds_is l (n + nn x) d (by omega) hd
      refine ⟨fun h => ?_, fun h => ?_⟩
      · rw [m1 (by omega)]
        simp only [Prod.mk.injEq, and_true]; omega
      · have := m2 h; omega
    · refine ⟨fun h => by omega, fun h => ?_⟩
      cases hm : (madd x n false d).2 with
      | false => exact absurd (k2 hm) hx
      | true => rw [hm, madds_over] at h; cases h
end
mutual
theorem shape_eq : ∀ x : Sx, shS x = ckR x
  | ⟨b, a, l⟩ => by
    simp only [shS, ckR]
    cases b with
    | false =>
      simp only [if_true, Bool.false_eq_true, false_and, false_or, true_and]
      by_cases hl : 0 < l.length
      · rw [if_pos hl, if_pos hl]
      · rw [if_neg hl, if_neg hl]
        have : l = [] := List.eq_nil_of_length_eq_zero (by omega)
        subst this
        rfl
    | true =>
      simp only [Bool.true_eq_false, if_false, true_and, false_and, or_false]
      by_cases ha : a ≠ ⟨#[]⟩
      · rw [if_pos ha, if_pos ha]
      · rw [if_neg ha, if_neg ha]
        have : a = ⟨#[]⟩ := Classical.not_not.1 ha
        subst this
        rw [if_neg (by decide), shapes_eq l]
theorem shapes_eq : ∀ l : List Sx, shSs l = ckRs l
  | [] => rfl
  | x :: l => by simp only [shSs, ckRs, shape_eq x, shapes_eq l]
end
theorem check_eq (x : Sx) : ckG x = ckN x := by
  unfold ckG ckN
  rw [shape_eq]
  obtain ⟨k1, k2⟩ := madd_is x 0 1
  by_cases h : (0 : Int) + (nn x : Int) ≤ 20000 ∧ (dd x : Int) + 1 - 1 ≤ 12
  · rw [k1 h, if_neg (by simp), if_neg (by rw [cnt_small x 20000 12 (by omega) (by omega)]; omega)]
  · have h1 : (madd x 0 false 1).2 = true := by
      cases hm : (madd x 0 false 1).2 with
      | false => exact absurd (k2 hm) h
      | true => rfl
    rw [if_pos h1, if_pos]
    refine Int.not_le.1 fun hle => h ?_
    have := cnt_in x 20000 12 (by omega) hle
    omega
end Go.Proofs.YtpbkhdeehlikfaaDoor
