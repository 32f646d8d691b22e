/-
  Csexp: what the reader yields, in general.
-/
import Derived.Test.YtpbkhdeehlikfaaDoorCG
namespace Go.Proofs.YtpbkhdeehlikfaaDoor
set_option linter.unusedVariables false
set_option linter.unusedSimpArgs false
set_option linter.unusedSectionVars false
open Go.RowKit

theorem numR_ok : ∀ (l : List UInt8) (first : Bool) (n m : Nat) (r : List UInt8), numR first n l = .ok (m, r) → (∃ p, p ≠ [] ∧ l = p ++ r) ∧ (n ≤ 65536 → m ≤ 65536)
  | [], _, _, _, _, h => by simp [numR] at h
  | c :: l, first, n, m, r, h => by
    simp only [numR] at h
    split at h
    · simp only [Res.ok.injEq, Prod.mk.injEq] at h
      obtain ⟨rfl, rfl⟩ := h
      exact ⟨⟨[c], by simp, rfl⟩, fun h => h⟩
    · split at h
      · cases h
      · split at h
        · cases h
        · rename_i h3
          obtain ⟨⟨p, _, hp⟩, hm⟩ := numR_ok l false _ m r h
          exact ⟨⟨c :: p, by simp, by rw [hp]; rfl⟩, fun _ => hm (by omega)⟩
theorem numR_err : ∀ (l : List UInt8) (first : Bool) (n : Nat) (e : Int), numR first n l = .err e → e = 11 ∨ e = 12
  | [], _, _, _, h => by simp only [numR, Res.err.injEq] at h; exact .inl h.symm
  | c :: l, first, n, e, h => by
    simp only [numR] at h
    split at h
    · cases h
    · split at h
      · simp only [Res.err.injEq] at h; exact .inr h.symm
      · split at h
        · simp only [Res.err.injEq] at h; exact .inr h.symm
        · exact numR_err l false _ e h
theorem atomR_ok {l a r : List UInt8} (h : atomR l = .ok (a, r)) : ∃ p, p ≠ [] ∧ l = p ++ a ++ r := by
  unfold atomR atomG at h
  split at h
  · cases h
  · rename_i n q hq
    split at h
    · cases h
    · simp only [Res.ok.injEq, Prod.mk.injEq] at h
      obtain ⟨rfl, rfl⟩ := h
      obtain ⟨⟨p, h1, h2⟩, _⟩ := numR_ok l true 0 n q hq
      exact ⟨p, h1, by rw [List.append_assoc, List.take_append_drop]; exact h2⟩
theorem atomR_err {l : List UInt8} {e : Int} (h : atomR l = .err e) : e = 11 ∨ e = 12 := by
  unfold atomR atomG at h
  split at h
  · rename_i e' h'
    simp only [Res.err.injEq] at h
    subst h
    exact numR_err l true 0 _ h'
  · split at h
    · simp only [Res.err.injEq] at h; exact .inl h.symm
    · cases h
/-- What a reader may yield: it goes on, counts what it reads, and its errors are two. -/
def Sound (f : Nat → List UInt8 → Res (Sx × Nat × List UInt8) Int) : Prop :=
  ∀ (k : Nat) (l : List UInt8), k ≤ 20000 → (∀ x k' r, f k l = .ok (x, k', r) → (∃ p, p ≠ [] ∧ l = p ++ r ∧ bkS x ≤ 4 * p.length) ∧ k < k' ∧ k' ≤ 20000) ∧ ∀ e, f k l = .err e → e = 11 ∨ e = 12
theorem bkSs_append : ∀ (l m : List Sx), bkSs (l ++ m) = bkSs l + bkSs m
  | [], m => by simp [bkSs]
  | x :: l, m => by simp only [List.cons_append, bkSs, bkSs_append l m]; omega
theorem rdL_sound {f : Nat → List UInt8 → Res (Sx × Nat × List UInt8) Int} (hf : Sound f) : ∀ (m k : Nat) (l : List UInt8) (acc : List Sx), k ≤ 20000 → l.length < m →
    (∀ xs k' r, rdL f m k l acc = .ok (xs, k', r) → (∃ p ys, p ≠ [] ∧ l = p ++ r ∧ xs = acc ++ ys ∧ bkSs ys ≤ 4 * (p.length - 1)) ∧ k ≤ k' ∧ k' ≤ 20000) ∧ ∀ e, rdL f m k l acc = .err e → e = 11 ∨ e = 12
  | 0, _, _, _, _, h => absurd h (Nat.not_lt_zero _)
  | m + 1, k, [], acc, hk, _ => ⟨fun _ _ _ h => (by simp [rdL] at h), fun e h => by simp only [rdL, Res.err.injEq] at h; exact .inl h.symm⟩
  | m + 1, k, c :: l, acc, hk, hm => by
    simp only [rdL]
    by_cases hc : c.toNat = 41
    · rw [if_pos hc]
      refine ⟨fun xs k' r h => ?_, fun e h => by cases h⟩
      simp only [Res.ok.injEq, Prod.mk.injEq] at h
      obtain ⟨rfl, rfl, rfl⟩ := h
      exact ⟨⟨[c], [], by simp, rfl, by simp, by simp [bkSs]⟩, Nat.le_refl _, hk⟩
    · rw [if_neg hc]
      obtain ⟨h1, h2⟩ := hf k (c :: l) hk
      cases hx : f k (c :: l) with
      | err e => exact ⟨fun _ _ _ h => (by cases h), fun e' h => by simp only [Res.err.injEq] at h; subst h; exact h2 e hx⟩
      | ok a =>
        obtain ⟨x, k', r'⟩ := a
        obtain ⟨⟨p, hp, hl, hb⟩, q1, q2⟩ := h1 x k' r' hx
        have hlen : r'.length < m := by
          have := congrArg List.length hl
          have : 0 < p.length := List.length_pos_iff.2 hp
          simp only [List.length_append, List.length_cons] at *; omega
        obtain ⟨g1, g2⟩ := rdL_sound hf m k' r' (acc ++ [x]) q2 hlen
        refine ⟨fun xs k2 r h => ?_, fun e h => g2 e h⟩
        obtain ⟨⟨p2, ys, hp2, hl2, hxs, hbs⟩, q3, q4⟩ := g1 xs k2 r h
        have hpl : 0 < p2.length := List.length_pos_iff.2 hp2
        have hpl1 : 0 < p.length := List.length_pos_iff.2 hp
        refine ⟨⟨p ++ p2, x :: ys, by simp [hp], by rw [hl, hl2, List.append_assoc], by rw [hxs]; simp, ?_⟩, by omega, q4⟩
        simp only [bkSs, List.length_append]; omega
theorem rdS_sound : ∀ (d : Nat), Sound (rdS d)
  | 0 => fun k l hk => by
    cases l with
    | nil => exact ⟨fun _ _ _ h => (by simp [rdS] at h), fun e h => by simp only [rdS, Res.err.injEq] at h; exact .inl h.symm⟩
    | cons c l => exact ⟨fun _ _ _ h => (by simp [rdS] at h), fun e h => by simp only [rdS, Res.err.injEq] at h; exact .inr h.symm⟩
  | d + 1 => fun k l hk => by
    cases l with
    | nil => exact ⟨fun _ _ _ h => (by simp [rdS] at h), fun e h => by simp only [rdS, Res.err.injEq] at h; exact .inl h.symm⟩
    | cons c l =>
      simp only [rdS]
      by_cases h1 : 20000 < k + 1
      · rw [if_pos h1]
        exact ⟨fun _ _ _ h => (by cases h), fun e h => by simp only [Res.err.injEq] at h; exact .inr h.symm⟩
      rw [if_neg h1]
      by_cases h2 : c.toNat ≠ 40
      · rw [if_pos h2]
        cases ha : atomR (c :: l) with
        | err e => exact ⟨fun _ _ _ h => (by cases h), fun e' h => by simp only [Res.err.injEq] at h; subst h; exact atomR_err ha⟩
        | ok a =>
          obtain ⟨a, r⟩ := a
          refine ⟨fun x k' r' h => ?_, fun e h => by cases h⟩
          simp only [Res.ok.injEq, Prod.mk.injEq] at h
          obtain ⟨rfl, rfl, rfl⟩ := h
          obtain ⟨p, hp, hl⟩ := atomR_ok ha
          have : 0 < p.length := List.length_pos_iff.2 hp
          refine ⟨⟨p ++ a, by simp [hp], hl, ?_⟩, by omega, by omega⟩
          have hsz : (⟨a.toArray⟩ : ByteArray).size = a.length := by rw [← bl_len, bl_mk]
          simp only [bkS, bkSs, hsz, List.length_append]; omega
      · rw [if_neg h2]
        obtain ⟨g1, g2⟩ := rdL_sound (rdS_sound d) (l.length + 1) (k + 1) l [] (by omega) (Nat.lt_succ_self _)
        cases hx : rdL (rdS d) (l.length + 1) (k + 1) l [] with
        | err e => exact ⟨fun _ _ _ h => (by cases h), fun e' h => by simp only [Res.err.injEq] at h; subst h; exact g2 e hx⟩
        | ok a =>
          obtain ⟨xs, k', r⟩ := a
          refine ⟨fun x k2 r2 h => ?_, fun e h => by cases h⟩
          simp only [Res.ok.injEq, Prod.mk.injEq] at h
          obtain ⟨rfl, rfl, rfl⟩ := h
          obtain ⟨⟨p, ys, hp, hl, hxs, hb⟩, q1, q2⟩ := g1 xs k' r hx
          rw [List.nil_append] at hxs
          subst hxs
          have : 0 < p.length := List.length_pos_iff.2 hp
          have hsz : (⟨#[]⟩ : ByteArray).size = 0 := rfl
          refine ⟨⟨c :: p, by simp, by rw [hl]; rfl, ?_⟩, by omega, q2⟩
          simp only [bkS, hsz, List.length_cons]; omega
/-- In a string: where the rest begins. -/
theorem drop_rest {s : ByteArray} {q : Nat} {p r : List UInt8} (h : (bl s).drop q = p ++ r) (hq : q ≤ s.size) : (s.size : Int) - (r.length : Int) = ((q + p.length : Nat) : Int) ∧ (bl s).drop (q + p.length) = r ∧ q + p.length ≤ s.size := by
  have hl := bl_len s
  have h1 := congrArg List.length h
  simp only [List.length_drop, List.length_append] at h1
  refine ⟨by omega, ?_, by omega⟩
  rw [← List.drop_drop, h, List.drop_left' rfl]
end Go.Proofs.YtpbkhdeehlikfaaDoor
