/-
  Csexp: decimal forms.
-/
import Derived.Test.YtpbkhdeehlikfaaDoorCE
import Derived.Lib.AtoiAllCases
namespace Go.Proofs.YtpbkhdeehlikfaaDoor
set_option linter.unusedVariables false
set_option linter.unusedSimpArgs false
set_option linter.unusedSectionVars false
open Go.RowKit

/-- What digits spell. -/
def dg1 (a : Nat) (c : UInt8) : Nat := 10 * a + (c.toNat - 48)
def dv (a : Nat) (l : List UInt8) : Nat := l.foldl dg1 a
theorem dv_nil (a : Nat) : dv a [] = a := rfl
theorem dv_cons (a : Nat) (c : UInt8) (l : List UInt8) : dv a (c :: l) = dv (10 * a + (c.toNat - 48)) l := List.foldl_cons ..
theorem dv_app : ∀ (l m : List UInt8) (a : Nat), dv a (l ++ m) = dv (dv a l) m
  | [], _, _ => by rw [dv_nil, List.nil_append]
  | c :: l, m, a => by rw [List.cons_append, dv_cons, dv_cons, dv_app l m]
theorem dv_le : ∀ (l : List UInt8) (a : Nat), a ≤ dv a l
  | [], a => Nat.le_refl a
  | c :: l, a => by
    have h := dv_le l (10 * a + (c.toNat - 48))
    rw [dv_cons]
    generalize dv (10 * a + (c.toNat - 48)) l = z at h
    omega
attribute [irreducible] dv
theorem digsA (l m : List UInt8) : digs (l ++ m) = (digs l && digs m) := by simp [digs]
theorem digsC (c : UInt8) (l : List UInt8) : digs (c :: l) = true ↔ (48 ≤ c.toNat ∧ c.toNat ≤ 57) ∧ digs l = true := by simp [digs]
theorem dig_nat (k : Nat) (h : k < 10) : (UInt8.ofNat (48 + k)).toNat = 48 + k := by
  rw [UInt8.toNat_ofNat']; omega
theorem dec_dv (u : Nat) : dv 0 (Lib.decDigits u) = u := by
  induction u using Nat.strongRecOn with
  | ind u ih =>
    by_cases h : u < 10
    · rw [Lib.decDigits_one h]; rw [dv_cons, dv_nil, dig_nat u h]; omega
    · rw [Lib.decDigits, dif_neg h, dv_app, ih (u / 10) (by omega)]
      rw [dv_cons, dv_nil, dig_nat (u % 10) (by omega)]; omega
theorem dec_digs (u : Nat) : digs (Lib.decDigits u) = true := by
  induction u using Nat.strongRecOn with
  | ind u ih =>
    by_cases h : u < 10
    · rw [Lib.decDigits, dif_pos h]; rw [digsC, dig_nat u h]; exact ⟨by omega, rfl⟩
    · rw [Lib.decDigits, dif_neg h, digsA, ih (u / 10) (by omega), Bool.true_and, digsC, dig_nat (u % 10) (by omega)]
      exact ⟨by omega, rfl⟩
theorem dec_ne (u : Nat) : Lib.decDigits u ≠ [] := by
  by_cases h : u < 10
  · rw [Lib.decDigits, dif_pos h]; simp
  · rw [Lib.decDigits, dif_neg h]; simp
theorem dec_head (u : Nat) : head48 (Lib.decDigits u) = true → u = 0 := by
  induction u using Nat.strongRecOn with
  | ind u ih =>
    by_cases h : u < 10
    · rw [Lib.decDigits, dif_pos h]; simp only [head48, dig_nat u h, decide_eq_true_eq]; omega
    · rw [Lib.decDigits, dif_neg h]
      intro h1
      have := ih (u / 10) (by omega)
      cases hd : Lib.decDigits (u / 10) with
      | nil => exact absurd hd (dec_ne _)
      | cons c r =>
        rw [hd] at h1 this
        have := this h1
        omega
theorem dv_pos {d : List UInt8} (h1 : digs d = true) (h2 : d ≠ []) (h3 : head48 d = false) : 1 ≤ dv 0 d := by
  cases d with
  | nil => exact absurd rfl h2
  | cons c r =>
    simp only [head48, decide_eq_false_iff_not] at h3
    have := ((digsC c r).1 h1).1
    have h5 := dv_le r (10 * 0 + (c.toNat - 48))
    rw [dv_cons]
    omega
theorem dec_uniq : ∀ (n : Nat) (d : List UInt8), d.length = n → digs d = true → d ≠ [] → (head48 d = false ∨ d = [48]) → Lib.decDigits (dv 0 d) = d
  | 0, d, hn, _, h, _ => absurd (List.eq_nil_of_length_eq_zero hn) h
  | n + 1, d, hn, h1, h2, h3 => by
    obtain ⟨d', c, rfl⟩ : ∃ d' c, d = d' ++ [c] := ⟨d.dropLast, d.getLast h2, (List.dropLast_concat_getLast h2).symm⟩
    rw [digsA, Bool.and_eq_true] at h1
    obtain ⟨h1, hc⟩ := h1
    have hc := ((digsC c []).1 hc).1
    have e : UInt8.ofNat (48 + (c.toNat - 48)) = c := by
      apply UInt8.toNat_inj.1
      rw [dig_nat _ (by omega)]; omega
    rw [dv_app, dv_cons, dv_nil]
    by_cases hd : d' = []
    · subst hd
      rw [Lib.decDigits, dif_pos (by rw [dv_nil]; omega)]
      simp only [dv_nil, Nat.mul_zero, Nat.zero_add, e, List.nil_append]
    · have hh : head48 d' = false := by
        cases d' with
        | nil => exact absurd rfl hd
        | cons x r =>
          rcases h3 with h3 | h3
          · exact h3
          · simp at h3
      have hp := dv_pos h1 hd hh
      have ih := dec_uniq n d' (by simp at hn; exact hn) h1 hd (.inl hh)
      rw [Lib.decDigits, dif_neg (by omega), show (10 * dv 0 d' + (c.toNat - 48)) / 10 = dv 0 d' by omega, ih, show (10 * dv 0 d' + (c.toNat - 48)) % 10 = c.toNat - 48 by omega, e]
/-- The number of an atom. -/
def numV (l : List UInt8) : Int × Int :=
  let m := dv 0 (if l.head? = some 45 then l.tail else l)
  if 1099511627776 < m then (0, 2) else (if l.head? = some 45 then -(m : Int) else m, 0)
theorem head_digs {d : List UInt8} (h : digs d = true) : d.head? ≠ some 45 := by
  cases d with
  | nil => simp
  | cons c r =>
    have := ((digsC c r).1 h).1
    simp only [List.head?_cons, ne_eq, Option.some.injEq]
    rintro rfl
    exact absurd this.1 (by decide)
theorem can_itoa (n : Int) : canR (Lib.itoa n) = true := by
  unfold Lib.itoa
  split
  · rename_i h
    have h1 := dec_digs n.natAbs
    have h2 := dec_ne n.natAbs
    have h3 : head48 (Lib.decDigits n.natAbs) = false := by
      cases hh : head48 (Lib.decDigits n.natAbs) with
      | false => rfl
      | true => have := dec_head _ hh; omega
    simp [canR, h1, h2, h3]
  · rename_i h
    have h1 := dec_digs n.toNat
    have h2 := dec_ne n.toNat
    have h4 := head_digs h1
    simp only [canR, if_neg h4, h1, h2, decide_false, Bool.not_false, Bool.and_true, Bool.true_and, Bool.or_eq_true, Bool.not_eq_true', decide_eq_true_eq]
    cases hh : head48 (Lib.decDigits n.toNat) with
    | false => exact .inl rfl
    | true =>
      have := dec_head _ hh
      rw [this]
      exact .inr (by rw [Lib.decDigits]; rfl)
theorem num_itoa {n : Int} (h : ¬ (n < -1099511627776 ∨ 1099511627776 < n)) : numV (Lib.itoa n) = (n, 0) := by
  unfold Lib.itoa
  split
  · rename_i h'
    simp only [numV, List.head?_cons, if_true, List.tail_cons, dec_dv]
    rw [if_neg (by omega)]
    simp only [Prod.mk.injEq, and_true]; omega
  · rename_i h'
    have h4 := head_digs (dec_digs n.toNat)
    simp only [numV, if_neg h4, dec_dv]
    rw [if_neg (by omega)]
    simp only [Prod.mk.injEq, and_true]; omega
theorem itoa_num {l : List UInt8} {m : Int} (h : canR l = true) (hm : numV l = (m, 0)) : Lib.itoa m = l ∧ ¬ (m < -1099511627776 ∨ 1099511627776 < m) := by
  unfold numV at hm
  dsimp only at hm
  by_cases hb : 1099511627776 < dv 0 (if l.head? = some 45 then l.tail else l)
  · rw [if_pos hb] at hm
    simp at hm
  rw [if_neg hb] at hm
  simp only [Prod.mk.injEq, and_true] at hm
  simp only [canR, Bool.and_eq_true, Bool.not_eq_true', decide_eq_false_iff_not, Bool.or_eq_true, decide_eq_true_eq] at h
  obtain ⟨⟨h1, h2⟩, h3⟩ := h
  by_cases h45 : l.head? = some 45
  · simp only [if_pos h45] at hm h1 h2 h3 hb
    obtain ⟨r, rfl⟩ : ∃ r, l = 45 :: r := by
      cases l with
      | nil => simp at h45
      | cons c r => simp at h45; exact ⟨r, by rw [h45]⟩
    simp only [List.tail_cons] at *
    have h3 : head48 r = false := by
      rcases h3 with h3 | h3
      · exact h3
      · simp at h3
    have hp := dv_pos h1 h2 h3
    unfold Lib.itoa
    rw [if_pos (by omega), show m.natAbs = dv 0 r by omega, dec_uniq _ r rfl h1 h2 (.inl h3)]
    exact ⟨rfl, by omega⟩
  · simp only [if_neg h45] at hm h1 h2 h3 hb
    unfold Lib.itoa
    rw [if_neg (by omega), show m.toNat = dv 0 l by omega, dec_uniq _ l rfl h1 h2 h3]
    exact ⟨rfl, by omega⟩
theorem decR_canR : ∀ (l : List UInt8), decR l = canR l
  | [] => rfl
  | c :: r => by
    have key : ∀ d : List UInt8, d.head? ≠ some 45 → d ≠ [] → (decR d = (digs d && (!head48 d || decide (d = [48])))) := fun d h1 h2 => by
      cases d with
      | nil => exact absurd rfl h2
      | cons c r =>
        have hc : ¬ (c.toNat = 45 ∧ r ≠ []) := fun h => h1 (by rw [List.head?_cons, Option.some.injEq]; exact UInt8.toNat_inj.1 h.1)
        rw [decR, if_neg hc]
        congr 1
        simp only [head48]
        by_cases h48 : c.toNat = 48
        · have : c = 48 := UInt8.toNat_inj.1 h48
          subst this
          simp
        · simp [h48]
    by_cases h45 : c = 45
    · subst h45
      by_cases hr : r = []
      · subst hr; rfl
      · rw [decR, if_pos ⟨rfl, hr⟩]
        simp only [canR, List.head?_cons, if_true, List.tail_cons]
        by_cases hh : r.head? = some 45
        · have : digs r = false := by
            cases hd : digs r with
            | false => rfl
            | true => exact absurd hh (head_digs hd)
          simp [hh, this]
        · rw [key r hh hr]
          have e : ((45 : UInt8) :: r = [48]) = False := by simp
          simp only [hh, decide_false, Bool.not_false, Bool.and_true, hr, e, Bool.or_false]
          by_cases h48 : r = [48]
          · subst h48; simp [head48]
          · simp [h48]
    · rw [key (c :: r) (by simpa using h45) (by simp)]
      simp only [canR, List.head?_cons, Option.some.injEq, if_neg h45]
      simp
theorem parse_dv : ∀ (l : List UInt8) (a : Nat), digs l = true → a < 18446744073709551616 → (dv a l < 18446744073709551616 → Lib.parseUint10 a l = .ok (dv a l)) ∧ (18446744073709551616 ≤ dv a l → Lib.parseUint10 a l = .range)
  | [], a, _, ha => by
    rw [dv_nil]
    exact ⟨fun _ => rfl, fun h => by omega⟩
  | c :: l, a, h, ha => by
    obtain ⟨h1, h2⟩ := (digsC c l).1 h
    rw [dv_cons, Lib.parseUint10, if_pos h1]
    have h3 := dv_le l (10 * a + (c.toNat - 48))
    have e : a * 10 + (c.toNat - 48) = 10 * a + (c.toNat - 48) := by omega
    rw [e]
    by_cases k1 : 1844674407370955162 ≤ a
    · rw [if_pos k1]
      exact ⟨fun h => by omega, fun _ => rfl⟩
    · rw [if_neg k1]
      by_cases k2 : 18446744073709551616 ≤ 10 * a + (c.toNat - 48)
      · rw [if_pos k2]
        exact ⟨fun h => by omega, fun _ => rfl⟩
      · rw [if_neg k2]
        exact parse_dv l _ h2 (by omega)
theorem numV_minus (r : List UInt8) : numV (45 :: r) = if 1099511627776 < dv 0 r then (0, 2) else (-(dv 0 r : Int), 0) := rfl
theorem numV_plain {l : List UInt8} (h : l.head? ≠ some 45) : numV l = if 1099511627776 < dv 0 l then (0, 2) else ((dv 0 l : Int), 0) := by simp only [numV, if_neg h]
/-- What strconv.Atoi makes of a canonical atom. -/
theorem atoi_can {l : List UInt8} (h : canR l = true) : (Lib.atoiAll l = .range ∧ numV l = (0, 2)) ∨ ∃ v, Lib.atoiAll l = .ok v ∧ numV l = (if v < -1099511627776 ∨ 1099511627776 < v then (0, 2) else (v, 0)) := by
  simp only [canR, Bool.and_eq_true, Bool.not_eq_true', decide_eq_false_iff_not, Bool.or_eq_true, decide_eq_true_eq] at h
  obtain ⟨⟨h1, h2⟩, -⟩ := h
  by_cases h45 : l.head? = some 45
  · simp only [if_pos h45] at h1 h2
    obtain ⟨r, rfl⟩ : ∃ r, l = 45 :: r := by
      cases l with
      | nil => simp at h45
      | cons c r => simp at h45; exact ⟨r, by rw [h45]⟩
    simp only [List.tail_cons] at h1 h2
    rw [numV_minus, Lib.atoiAll_minus, Lib.parseMag, if_neg h2]
    obtain ⟨p1, p2⟩ := parse_dv r 0 h1 (by omega)
    by_cases hz : dv 0 r < 18446744073709551616
    · rw [p1 hz]
      simp only [Lib.signed]
      by_cases hw : 9223372036854775808 < dv 0 r
      · rw [if_pos hw, if_pos (by omega)]
        exact .inl ⟨rfl, rfl⟩
      · rw [if_neg hw]
        refine .inr ⟨_, rfl, ?_⟩
        by_cases hv : 1099511627776 < dv 0 r
        · rw [if_pos hv, if_pos (by omega)]
        · rw [if_neg hv, if_neg (by omega)]
    · rw [p2 (by omega), if_pos (show 1099511627776 < _ by omega)]
      exact .inl ⟨rfl, rfl⟩
  · simp only [if_neg h45] at h1 h2
    cases l with
    | nil => exact absurd rfl h2
    | cons c r =>
      have hc := ((digsC c r).1 h1).1
      rw [numV_plain h45, Lib.atoiAll_plain c r (by omega) (by omega), Lib.parseMag, if_neg h2]
      obtain ⟨p1, p2⟩ := parse_dv (c :: r) 0 h1 (by omega)
      by_cases hz : dv 0 (c :: r) < 18446744073709551616
      · rw [p1 hz]
        simp only [Lib.signless]
        by_cases hw : 9223372036854775808 ≤ dv 0 (c :: r)
        · rw [if_pos hw, if_pos (by omega)]
          exact .inl ⟨rfl, rfl⟩
        · rw [if_neg hw]
          refine .inr ⟨_, rfl, ?_⟩
          by_cases hv : 1099511627776 < dv 0 (c :: r)
          · rw [if_pos hv, if_pos (by omega)]
          · rw [if_neg hv, if_neg (by omega)]
      · rw [p2 (by omega), if_pos (show 1099511627776 < _ by omega)]
        exact .inl ⟨rfl, rfl⟩
/-- Number, after a check. -/
def nmB (e : Int) (x : Sx) : Int × Int := if e = 0 then (if x.isList = true then (0, 8) else if canR (bl x.atom) = true then numV (bl x.atom) else (0, 3)) else (0, e)
end Go.Proofs.YtpbkhdeehlikfaaDoor
