/-
  Csexp: Decode (the reference's), Number, Decimal.
-/
import Derived.Test.YtpbkhdeehlikfaaDoorFH
namespace Go.Proofs.YtpbkhdeehlikfaaDoor
set_option linter.unusedVariables false
set_option linter.unusedSimpArgs false
set_option linter.unusedSectionVars false
open Go.RowKit

def sp15 : Sp := ⟨S15, L15, fun g => topP g.1, sp14.res, fun _ => none⟩
theorem rdT_le (s : ByteArray) : (rdT s).2.1 ≤ (s.size : Int) := by
  unfold rdT
  split
  · dsimp only; omega
  · dsimp only; omega
theorem sp15_ok : sp15.Ok Tryd.prog 15 false :=
  ⟨by
    rintro ⟨s, ⟨⟩⟩ K X q1 h
    have h : K (.tu [.ag [.bool (dcT s).1.isList, .str (dcT s).1.atom, .sl false .sexp (dcT s).1.list], .int .i64 (dcT s).2]) [] := h
    refine FCalls.weak (F15_ok (s, ()) (wkK K) X ⟨q1, ?_⟩)
    have hle := rdT_le s
    unfold dcT at h
    rw [bif_ndec, bif_dec]
    dsimp only at *
    split at h
    · rename_i h1
      rw [if_pos h1]
      split at h
      · rename_i h2; rw [if_neg (by omega)]; exact wkK_of h
      · rename_i h2; rw [if_pos (by omega)]; exact wkK_nil2 h
    · rename_i h1; rw [if_neg h1]; exact wkK_nil2 h, fun _ _ _ => rfl, fun _ => rfl, fun h => (by cases h)⟩
def nmG (x : Sx) : Int × Int := nmB (ckG x) x
def nmN (x : Sx) : Int × Int := nmB (ckN x) x
def sp20 : Sp := ⟨S20, L20, bkP, fun g => .tu [.int .i64 (nmG ⟨g.1, g.2.1, g.2.2.1⟩).1, .int .i64 (nmG ⟨g.1, g.2.1, g.2.2.1⟩).2], fun _ => none⟩
theorem sp20_ok : sp20.Ok Tryd.prog 20 true :=
  ⟨by
    rintro ⟨b, a, l, ⟨⟩⟩ K X q1 h
    have h : K (.tu [.int .i64 (nmB (ckG ⟨b, a, l⟩) ⟨b, a, l⟩).1, .int .i64 (nmB (ckG ⟨b, a, l⟩) ⟨b, a, l⟩).2]) [] := h
    have q2 : bkS ⟨b, a, l⟩ ≤ lim := q1
    have hsz : a.size ≤ 1073741824 := by have := (small q2).2.1; rw [lim_eq] at this; exact this
    refine F20_ok (b, a, l, ()) K X ⟨q1, ?_⟩
    unfold nmB at h
    dsimp only
    rw [bif_ndec]
    by_cases h0 : ckG ⟨b, a, l⟩ = 0
    · rw [if_pos h0] at h
      rw [if_pos h0]
      cases b with
      | true => exact h
      | false =>
        refine ⟨(by omega : a.size ≤ 4294967296), ?_⟩
        rw [if_neg (by simp)] at h
        cases hc : canR (bl a) with
        | false => rw [hc] at h; exact h
        | true =>
          rw [hc, if_pos rfl] at h
          rcases atoi_can hc with ⟨e1, e2⟩ | ⟨v, e1, e2⟩
          · refine ⟨⟨(by omega : a.size ≤ 2147483648), .inr e1⟩, ?_⟩
            unfold atoiR
            rw [e1]
            rw [e2] at h
            exact h
          · refine ⟨⟨(by omega : a.size ≤ 2147483648), .inl ⟨v, e1⟩⟩, ?_⟩
            unfold atoiR
            rw [e1]
            rw [e2] at h
            show bif decide (v < -1099511627776) then _ else _
            rw [bif_dec, bif_dec]
            by_cases k1 : v < -1099511627776
            · rw [if_pos (.inl k1)] at h; rw [if_pos k1]; exact h
            · rw [if_neg k1]
              by_cases k2 : 1099511627776 < v
              · rw [if_pos (.inr k2)] at h; rw [if_pos k2]; exact h
              · rw [if_neg (fun e => e.elim k1 k2)] at h; rw [if_neg k2]; exact h
    · rw [if_neg h0] at h
      rw [if_neg h0]
      exact h, fun _ _ _ => rfl, fun _ => rfl, fun _ _ => ⟨rfl, rfl⟩⟩
def finK (K : Kn) (m : Nat) (sg : Int) (r : List UInt8) : Prop := if 1099511627776 < dv m r then K (.tu [.int .i64 0, .int .i64 2]) [] else K (.tu [.int .i64 (sg * (dv m r : Int)), .int .i64 0]) []
theorem F21_loop {s : ByteArray} {K : Kn} (hs : s.size ≤ 4294967296) (h : (digs (bl s) = true ∧ finK K 0 1 (bl s)) ∨ ∃ r, bl s = 45 :: r ∧ digs r = true ∧ finK K 0 (-1) r) : F21_L2 K (s, 0, 1, 0, ()) := by
  have hl := bl_len s
  unfold F21_L2
  refine LoopW.fold (bl s) (fun n (a : Nat × Int) => (s, (a.1 : Int), a.2, (n : Int), ()))
    (fun r n a => (digs r = true ∧ a.1 ≤ 1099511627776 ∧ (a.2 = 1 ∨ a.2 = -1) ∧ finK K a.1 a.2 r) ∨ ∃ r', r = 45 :: r' ∧ digs r' = true ∧ a = (0, 1) ∧ finK K 0 (-1) r') (a0 := (0, 1)) rfl ?_ (fun a hp W => ?_) (fun n hn r a hr hp W hW => ?_)
  · rcases h with ⟨h1, h2⟩ | ⟨r, h1, h2, h3⟩
    · exact .inl ⟨h1, by decide, .inl rfl, h2⟩
    · exact .inr ⟨r, h1, h2, rfl, h3⟩
  · unfold F21_B2
    rw [bif_dec, if_neg (by dsimp only; omega)]
    rcases hp with ⟨_, k1, k2, k3⟩ | ⟨r', k, _⟩
    · unfold finK at k3
      rw [dv_nil, if_neg (by omega)] at k3
      dsimp only
      rw [wrap64 (by rcases k2 with k2 | k2 <;> rw [k2] <;> omega) (by rcases k2 with k2 | k2 <;> rw [k2] <;> omega)]
      exact k3
    · cases k
  · unfold F21_B2
    have hd : (bl s).drop n = (bl s)[n] :: r := by rw [hr]; exact List.drop_eq_getElem_cons hn
    generalize (bl s)[n] = c at *
    rw [bif_dec, if_pos (by dsimp only; omega)]
    refine StrAt_of hd ?_
    rw [bif_dec]
    have hw : IntKind.i64.wrap ((n : Int) + 1) = ((n + 1 : Nat) : Int) := wrapS (N := 4294967296) (by omega) (by omega)
    rcases hp with ⟨d1, k1, k2, k3⟩ | ⟨r', k, d1, rfl, k3⟩
    · obtain ⟨⟨c1, c2⟩, c3⟩ := (digsC c r).1 d1
      rw [if_neg (by omega)]
      refine StrAt_of hd ?_
      dsimp only
      have e1 : IntKind.u8.wrap ((c.toNat : Int) - 48) = (c.toNat : Int) - 48 := by simp [IntKind.wrap, IntKind.bits, IntKind.signed]; omega
      rw [e1, wrap64 (n := (a.1 : Int) * 10) (by omega) (by omega), wrap64 (n := (c.toNat : Int) - 48) (by omega) (by omega), wrap64 (by omega) (by omega)]
      have e2 : (a.1 : Int) * 10 + ((c.toNat : Int) - 48) = ((10 * a.1 + (c.toNat - 48) : Nat) : Int) := by omega
      rw [e2, bif_dec]
      unfold finK at k3
      rw [dv_cons] at k3
      have hle := dv_le r (10 * a.1 + (c.toNat - 48))
      by_cases hb : 1099511627776 < 10 * a.1 + (c.toNat - 48)
      · rw [if_pos (by omega)] at k3
        rw [if_pos (by omega)]
        exact k3
      · rw [if_neg (by omega)]
        unfold F21_J6
        rw [hw]
        exact hW (10 * a.1 + (c.toNat - 48), a.2) (.inl ⟨c3, (by omega : 10 * a.1 + (c.toNat - 48) ≤ 1099511627776), k2, k3⟩)
    · simp only [List.cons.injEq] at k
      obtain ⟨rfl, rfl⟩ := k
      rw [if_pos (show (((45 : UInt8).toNat : Nat) : Int) = 45 from rfl)]
      unfold F21_J6
      rw [hw]
      exact hW (0, -1) (.inl ⟨d1, by decide, .inr rfl, k3⟩)
def sp21 : Sp := ⟨S21, L21, bkP, fun g => .tu [.int .i64 (nmN ⟨g.1, g.2.1, g.2.2.1⟩).1, .int .i64 (nmN ⟨g.1, g.2.1, g.2.2.1⟩).2], fun _ => none⟩
theorem fin_num {K : Kn} {l : List UInt8} (hc : canR l = true) (h : K (.tu [.int .i64 (numV l).1, .int .i64 (numV l).2]) []) : (digs l = true ∧ finK K 0 1 l) ∨ ∃ r, l = 45 :: r ∧ digs r = true ∧ finK K 0 (-1) r := by
  simp only [canR, Bool.and_eq_true, Bool.not_eq_true', decide_eq_false_iff_not, Bool.or_eq_true, decide_eq_true_eq] at hc
  obtain ⟨⟨h1, h2⟩, -⟩ := hc
  by_cases h45 : l.head? = some 45
  · simp only [if_pos h45] at h1 h2
    obtain ⟨r, rfl⟩ : ∃ r, l = 45 :: r := by
      cases l with
      | nil => simp at h45
      | cons c r => simp at h45; exact ⟨r, by rw [h45]⟩
    rw [numV_minus] at h
    refine .inr ⟨r, rfl, h1, ?_⟩
    unfold finK
    split at h
    · rename_i k; rw [if_pos k]; exact h
    · rename_i k; rw [if_neg k, Int.neg_mul, Int.one_mul]; exact h
  · simp only [if_neg h45] at h1 h2
    rw [numV_plain h45] at h
    refine .inl ⟨h1, ?_⟩
    unfold finK
    split at h
    · rename_i k; rw [if_pos k]; exact h
    · rename_i k; rw [if_neg k, Int.one_mul]; exact h
theorem sp21_ok : sp21.Ok Tryd.prog 21 true :=
  ⟨by
    rintro ⟨b, a, l, ⟨⟩⟩ K X q1 h
    have h : K (.tu [.int .i64 (nmB (ckN ⟨b, a, l⟩) ⟨b, a, l⟩).1, .int .i64 (nmB (ckN ⟨b, a, l⟩) ⟨b, a, l⟩).2]) [] := h
    have q2 : bkS ⟨b, a, l⟩ ≤ lim := q1
    have hsz : a.size ≤ 1073741824 := by have := (small q2).2.1; rw [lim_eq] at this; exact this
    refine F21_ok (b, a, l, ()) K X ⟨q1, ?_⟩
    unfold nmB at h
    dsimp only
    rw [bif_ndec]
    by_cases h0 : ckN ⟨b, a, l⟩ = 0
    · rw [if_pos h0] at h
      rw [if_pos h0]
      cases b with
      | true => exact h
      | false =>
        refine ⟨(by omega : a.size ≤ 4294967296), ?_⟩
        rw [if_neg (by simp)] at h
        rw [decR_canR]
        cases hc : canR (bl a) with
        | false => rw [hc] at h; exact h
        | true =>
          rw [hc, if_pos rfl] at h
          exact F21_loop (by omega) (fin_num hc h)
    · rw [if_neg h0] at h
      rw [if_neg h0]
      exact h, fun _ _ _ => rfl, fun _ => rfl, fun _ _ => ⟨rfl, rfl⟩⟩
end Go.Proofs.YtpbkhdeehlikfaaDoor
