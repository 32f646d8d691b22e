/-
  Csexp: next, the reference's atom, and the decimal forms.
-/
import Derived.Test.YtpbkhdeehlikfaaDoorFB
import Derived.Test.YtpbkhdeehlikfaaDoorFC
namespace Go.Proofs.YtpbkhdeehlikfaaDoor
set_option linter.unusedVariables false
set_option linter.unusedSimpArgs false
set_option linter.unusedSectionVars false
open Go.RowKit

theorem bl_len (s : ByteArray) : (bl s).length = s.size := by unfold bl; simp
theorem bl_get (s : ByteArray) (n : Nat) : s[n]? = (bl s)[n]? := by
  unfold bl
  by_cases h : n < s.size
  · rw [getElem?_pos s n h, List.getElem?_eq_getElem (by simpa using h)]
    simp [ByteArray.getElem_eq_getElem_data]
  · rw [getElem?_neg s n h, List.getElem?_eq_none (by simpa using Nat.le_of_not_lt h)]
theorem bl_extract (s : ByteArray) (a b : Nat) : bl (s.extract a b) = ((bl s).take b).drop a := by
  unfold bl
  rw [ByteArray.data_extract, Array.toList_extract, List.extract_eq_take_drop, List.drop_take]
theorem bl_inj {s t : ByteArray} (h : bl s = bl t) : s = t := by
  obtain ⟨s⟩ := s
  obtain ⟨t⟩ := t
  unfold bl at h
  simp only at h
  rw [Array.toList_inj.1 h]
theorem bl_mk (l : List UInt8) : bl ⟨l.toArray⟩ = l := by simp [bl]
theorem mk_bl (s : ByteArray) : (⟨(bl s).toArray⟩ : ByteArray) = s := by simp [bl]
theorem StrAt_of {s : ByteArray} {n : Nat} {c : UInt8} {r : List UInt8} {K : Int → Prop} (h : (bl s).drop n = c :: r) (hK : K (c.toNat : Int)) : StrAt s (n : Int) K := by
  refine ⟨by omega, c, ?_, hK⟩
  rw [Int.toNat_natCast, bl_get]
  have := congrArg (·[0]?) h
  simpa using this
theorem drop_next {α : Type} {l r : List α} {n : Nat} {c : α} (h : l.drop n = c :: r) : l.drop (n + 1) = r ∧ n < l.length ∧ r.length + n + 1 = l.length := by
  have h1 := congrArg List.length h
  simp only [List.length_drop, List.length_cons] at h1
  refine ⟨?_, by omega, by omega⟩
  rw [← List.drop_drop, h]; rfl
theorem u8_lt (c : UInt8) : c.toNat < 256 := c.toNat_lt
theorem digit_val {c : UInt8} (h1 : 48 ≤ c.toNat) (h2 : c.toNat ≤ 57) : IntKind.i64.wrap (IntKind.u8.wrap ((c.toNat : Int) - 48)) = ((c.toNat - 48 : Nat) : Int) := by
  have : IntKind.u8.wrap ((c.toNat : Int) - 48) = (c.toNat : Int) - 48 := by simp [IntKind.wrap, IntKind.bits, IntKind.signed]; omega
  rw [this, wrap64 (by omega) (by omega)]; omega
def rw42 : Raw := ⟨S42, O42, L42, 0, fun g K X => nextPre g ∧ nextF g K X⟩
theorem rw42_ok : rw42.Ok Tryd.prog 42 := by
  rintro ⟨s, p, n, ⟨⟩⟩ K X ⟨⟨h1, h2, h3⟩, h⟩
  refine F42_ok _ K X ?_
  obtain ⟨q, rfl⟩ := Int.eq_ofNat_of_zero_le h1
  unfold nextF at h
  unfold F42
  dsimp only [Lf.ty, prodL] at h2 h ⊢
  rw [Int.toNat_natCast] at h
  rw [bif_dec]
  have hl := bl_len s
  cases hd : (bl s).drop q with
  | nil =>
    have := List.drop_eq_nil_iff.1 hd
    rw [hd] at h
    rw [if_pos (by omega)]
    exact h
  | cons c r =>
    obtain ⟨_, d2, _⟩ := drop_next hd
    rw [hd] at h
    rw [if_neg (by omega)]
    exact StrAt_of hd h

/-! ### The reference's atom -/
/-- The loop's end: at a place behind n digits, begun at begin. -/
theorem F44_end {n b p : Nat} {s : ByteArray} {t1 : ByteArray} {t2 t3 t4 left : Int} {K : Kn} (hp : p ≤ s.size) (hs : s.size ≤ 2147483648) (hn : n ≤ 65536) (hnd : ∀ c r, (bl s).drop p = c :: r → ¬ (48 ≤ c.toNat ∧ c.toNat ≤ 57))
    (hc : b = p → n = 0) (h : Res.go (atomG (decide (b = p)) n ((bl s).drop p))
      (fun a : List UInt8 × List UInt8 => K (.tu [.str (⟨a.1.toArray⟩ : ByteArray), .ag [.str s, .int .i64 ((s.size : Int) - (a.2.length : Int)), .int .i64 left, .int .i64 0]]) []) (fun e => ∀ p : Int, K (.tu [.str (⟨#[]⟩ : ByteArray), .ag [.str s, .int .i64 p, .int .i64 left, .int .i64 e]]) [])) :
    F44_J13 K (n : Int) (b : Int) s (p : Int) left 0 t1 t2 t3 t4 := by
  have hl := bl_len s
  unfold F44_J13
  rw [bif_dec]
  cases hd : (bl s).drop p with
  | nil =>
    have := List.drop_eq_nil_iff.1 hd
    rw [hd] at h
    rw [if_pos (by omega)]
    exact h _
  | cons c r =>
    obtain ⟨d1, d2, d3⟩ := drop_next hd
    rw [hd] at h
    rw [if_neg (by omega), bif_dec]
    have hnd := hnd c r hd
    simp only [atomG, numR] at h
    have w1 : IntKind.i64.wrap ((p : Int) + 1) = ((p + 1 : Nat) : Int) := by rw [wrap64 (by omega) (by omega)]; omega
    by_cases hb : b = p
    · subst hb
      rw [if_pos rfl]
      rw [if_neg (by simp)] at h
      by_cases h58 : c.toNat < 48
      · rw [if_pos (.inl h58)] at h
        exact h _
      · rw [if_pos (.inr (.inl (by omega)))] at h
        exact h _
    · rw [if_neg (by omega)]
      refine StrAt_of hd ?_
      rw [decide_eq_false hb] at h
      unfold F44_J12
      by_cases h58 : c.toNat = 58
      · rw [if_pos ⟨h58, rfl⟩] at h
        rw [show (!decide ((c.toNat : Int) = 58)) = false by simp; omega, cond_false, bif_dec, w1, wrap64 (by omega) (by omega), wrap64 (by omega) (by omega)]
        simp only at h
        by_cases h1 : r.length < n
        · rw [if_pos h1] at h
          rw [if_pos (by omega)]
          exact h _
        · rw [if_neg h1] at h
          rw [if_neg (by omega)]
          refine ⟨by omega, by omega, by omega, ?_⟩
          have e1 : s.extract ((p + 1 : Nat) : Int).toNat (((p + 1 : Nat) : Int) + (n : Int)).toNat = ⟨(r.take n).toArray⟩ := by
            apply bl_inj
            rw [show bl ⟨(r.take n).toArray⟩ = r.take n from bl_mk _, bl_extract, Int.toNat_natCast, show (((p + 1 : Nat) : Int) + (n : Int)).toNat = p + 1 + n by omega, List.drop_take, d1, show p + 1 + n - (p + 1) = n by omega]
          have e2 : ((p + 1 : Nat) : Int) + (n : Int) = (s.size : Int) - ((r.drop n).length : Int) := by rw [List.length_drop]; omega
          rw [e1, e2]
          exact h
      · rw [if_neg (by simp [h58]), if_pos (by omega)] at h
        rw [show (!decide ((c.toNat : Int) = 58)) = true by simp; omega, cond_true]
        exact h _
theorem F44_is {p : Nat} {s : ByteArray} {left : Int} {K X : Kn} (hp : p ≤ s.size) (hs : s.size ≤ 2147483648) (h : atomF (s, (p : Int), left, 0, ()) K X) : F44 (s, (p : Int), left, 0, ()) K := by
  unfold atomF atomR at h
  dsimp only [Lf.ty, prodL] at h
  rw [Int.toNat_natCast] at h
  have hl := bl_len s
  unfold F44 F44_L2
  dsimp only [Lf.ty, prodL]
  let M (first : Bool) (n q : Nat) : Prop := Res.go (atomG first n ((bl s).drop q))
      (fun a : List UInt8 × List UInt8 => K (.tu [.str (⟨a.1.toArray⟩ : ByteArray), .ag [.str s, .int .i64 ((s.size : Int) - (a.2.length : Int)), .int .i64 left, .int .i64 0]]) []) (fun e => ∀ p : Int, K (.tu [.str (⟨#[]⟩ : ByteArray), .ag [.str s, .int .i64 p, .int .i64 left, .int .i64 e]]) [])
  refine LoopW.of (fun g => ∃ (n q : Nat), g = ((n : Int), (p : Int), s, (q : Int), left, 0, (⟨#[]⟩ : ByteArray), 0, 0, 0, ()) ∧ p ≤ q ∧ q ≤ s.size ∧ n ≤ 65536 ∧ (p = q → n = 0) ∧ (∀ c r, p < q → (bl s).drop p = c :: r → (q = p + 1 → n = c.toNat - 48) ∧ (p + 1 < q → n ≠ 0 ∧ c.toNat ≠ 48) ∧ 48 ≤ c.toNat) ∧ M (decide (p = q)) n q) (fun g => (s.size - g.2.2.2.1.toNat)) ?_ ⟨0, p, rfl, Nat.le_refl _, hp, by omega, fun _ => rfl, fun _ _ h => absurd h (Nat.lt_irrefl _), by simpa [M] using h⟩
  rintro g ⟨n, q, rfl, i1, i2, i3, i4, i5, i6⟩ W hW
  have hend : (∀ c r, (bl s).drop q = c :: r → ¬ (48 ≤ c.toNat ∧ c.toNat ≤ 57)) → F44_J13 K (n : Int) (p : Int) s (q : Int) left 0 (⟨#[]⟩ : ByteArray) 0 0 0 := fun hn => F44_end i2 hs i3 hn i4 i6
  unfold F44_B2
  dsimp only
  rw [bif_dec]
  cases hd : (bl s).drop q with
  | nil =>
    have := List.drop_eq_nil_iff.1 hd
    rw [if_neg (by omega)]
    exact hend fun c r h => by rw [hd] at h; cases h
  | cons c r =>
    obtain ⟨d1, d2, d3⟩ := drop_next hd
    rw [if_pos (by omega)]
    refine StrAt_of hd ?_
    rw [bif_dec]
    by_cases h1 : 48 ≤ c.toNat
    case neg =>
      rw [if_neg (by omega)]
      exact hend fun c' r' h => by rw [hd] at h; injection h with h _; subst h; omega
    rw [if_pos (by omega)]
    refine StrAt_of hd ?_
    rw [bif_dec]
    by_cases h2 : c.toNat ≤ 57
    case neg =>
      rw [if_neg (by omega)]
      exact hend fun c' r' h => by rw [hd] at h; injection h with h _; subst h; omega
    rw [if_pos (by omega)]
    refine StrAt_of hd ?_
    have hval : IntKind.i64.wrap ((IntKind.i64.wrap ((n : Int) * 10)) + (IntKind.i64.wrap (IntKind.u8.wrap ((c.toNat : Int) - 48)))) = ((10 * n + (c.toNat - 48) : Nat) : Int) := by
      rw [digit_val h1 h2, wrap64 (n := (n : Int) * 10) (by omega) (by omega), wrap64 (by omega) (by omega)]; omega
    have w1 : IntKind.i64.wrap ((q : Int) + 1) = ((q + 1 : Nat) : Int) := by rw [wrap64 (by omega) (by omega)]; omega
    rw [hval, w1, bif_dec]
    have hM : M (decide (p = q)) n q := i6
    simp only [M, hd, atomG, numR] at hM
    rw [if_neg (by omega)] at hM
    by_cases hz : decide (p = q) = false ∧ n = 0
    · -- a zero ahead of a digit
      rw [if_pos (.inr (.inr hz))] at hM
      have hpq : p < q := by have := of_decide_eq_false hz.1; omega
      obtain ⟨c0, r0, hd0⟩ : ∃ c0 r0, (bl s).drop p = c0 :: r0 := by
        cases h0 : (bl s).drop p with
        | nil => have := List.drop_eq_nil_iff.1 h0; omega
        | cons c0 r0 => exact ⟨c0, r0, rfl⟩
      obtain ⟨j1, j2, j3⟩ := i5 c0 r0 hpq hd0
      rw [if_neg (by omega), bif_dec, wrap64 (by omega) (by omega), if_pos (by omega)]
      refine StrAt_of hd0 ?_
      have : c0.toNat = 48 := by
        by_cases e : q = p + 1
        · have := j1 e; omega
        · exact absurd hz.2 (j2 (by omega)).1
      unfold F44_J8
      rw [show decide ((c0.toNat : Int) = 48) = true by simp; omega, cond_true]
      exact hM _
    rw [if_neg (by simp only [not_or]; exact ⟨by omega, by omega, hz⟩)] at hM
    by_cases h3 : 65536 < 10 * n + (c.toNat - 48)
    · rw [if_pos h3] at hM
      rw [if_pos (by omega)]
      exact hM _
    rw [if_neg h3] at hM
    rw [if_neg (by omega), bif_dec, wrap64 (by omega) (by omega)]
    have hnext : W (((10 * n + (c.toNat - 48) : Nat) : Int), (p : Int), s, ((q + 1 : Nat) : Int), left, 0, (⟨#[]⟩ : ByteArray), 0, 0, 0, ()) := by
      refine hW _ ⟨_, q + 1, rfl, by omega, by omega, by omega, by omega, fun c0 r0 hlt h0 => ?_, ?_⟩ ?_
      · by_cases e : p = q
        · subst e
          rw [hd] at h0
          injection h0 with h0 _
          subst h0
          have := i4 rfl
          exact ⟨fun _ => by omega, fun h => by omega, h1⟩
        · obtain ⟨j1, j2, j3⟩ := i5 c0 r0 (by omega) h0
          have hn0 : n ≠ 0 := fun h => hz ⟨decide_eq_false e, h⟩
          refine ⟨fun h => by omega, fun _ => ⟨by omega, ?_⟩, j3⟩
          by_cases e2 : q = p + 1
          · have := j1 e2; omega
          · exact (j2 (by omega)).2
      · rw [decide_eq_false (show ¬ p = q + 1 by omega)]
        simp only [M, d1, atomG]
        exact hM
      · dsimp only
        rw [Int.toNat_natCast, Int.toNat_natCast]; omega
    by_cases h4 : p = q
    · rw [if_neg (by omega)]
      unfold F44_J8
      exact hnext
    · rw [if_pos (by omega)]
      obtain ⟨c0, r0, hd0⟩ : ∃ c0 r0, (bl s).drop p = c0 :: r0 := by
        cases h0 : (bl s).drop p with
        | nil => have := List.drop_eq_nil_iff.1 h0; omega
        | cons c0 r0 => exact ⟨c0, r0, rfl⟩
      obtain ⟨j1, j2, j3⟩ := i5 c0 r0 (by omega) hd0
      refine StrAt_of hd0 ?_
      have hn0 : n ≠ 0 := fun h => hz ⟨decide_eq_false h4, h⟩
      have : c0.toNat ≠ 48 := by
        by_cases e : q = p + 1
        · have := j1 e; omega
        · exact (j2 (by omega)).2
      unfold F44_J8
      rw [show decide ((c0.toNat : Int) = 48) = false by simp; omega, cond_false]
      exact hnext
def rw44 : Raw := ⟨S44, O44, L44, 0, fun g K X => atomPre g ∧ atomF g K X⟩
theorem rw44_ok : rw44.Ok Tryd.prog 44 := by
  rintro ⟨s, p, n, e, ⟨⟩⟩ K X ⟨⟨⟨h1, h2, h3⟩, h4⟩, h⟩
  have h4 : e = 0 := h4
  subst h4
  obtain ⟨q, rfl⟩ := Int.eq_ofNat_of_zero_le h1
  rw [lim_eq] at h3
  exact F44_ok _ K X (F44_is (X := X) (Int.ofNat_le.1 h2) (by dsimp only [Lf.ty] at *; omega) h)
end Go.Proofs.YtpbkhdeehlikfaaDoor
