/-
  Csexp: the two readers.
-/
import Derived.Test.YtpbkhdeehlikfaaDoorCH
import Derived.Test.YtpbkhdeehlikfaaDoorFD
import Derived.Test.YtpbkhdeehlikfaaDoorFE
namespace Go.Proofs.YtpbkhdeehlikfaaDoor
set_option linter.unusedVariables false
set_option linter.unusedSimpArgs false
set_option linter.unusedSectionVars false
open Go.RowKit

theorem wkK_of {K : Kn} {r : T} {s : St} (h : K r s) : wkK K r s := ⟨r, Weak.refl r, h⟩
theorem weak_nil {b : Bool} {a : ByteArray} : Weak (.ag [.bool b, .str a, .nil]) (.ag [.bool b, .str a, .sl false .sexp []]) :=
  Weak.ag (WeakL.cons (Weak.refl _) (WeakL.cons (Weak.refl _) (WeakL.cons (Weak.nil .sexp) WeakL.nil)))
theorem wkK_nil2 {K : Kn} {b : Bool} {a : ByteArray} {v : T} {s : St} (h : K (.tu [.ag [.bool b, .str a, .sl false .sexp []], v]) s) : wkK K (.tu [.ag [.bool b, .str a, .nil], v]) s :=
  ⟨_, Weak.tu (WeakL.cons weak_nil (WeakL.cons (Weak.refl _) WeakL.nil)), h⟩
theorem wkK_nil1 {K : Kn} {b : Bool} {a : ByteArray} {s : St} (h : K (.ag [.bool b, .str a, .sl false .sexp []]) s) : wkK K (.ag [.bool b, .str a, .nil]) s := ⟨_, weak_nil, h⟩
theorem res_err {α : Type} {K : α → Prop} {X : Int → Prop} {e : Int} (h : Res.go (.err e : Res α Int) K X) : X e := h

/-! ### The reference's reader -/
theorem F28_is {Z : prodL L28 → Prop} {s : ByteArray} {p k d : Nat} {K X : Kn} (hp : p ≤ s.size) (hs : s.size ≤ 2147483648) (hk : k ≤ 20000) (hd : d ≤ 12)
    (hZ : ∀ q k' : Nat, q ≤ s.size → k' ≤ 20000 → 1 ≤ d → Z (s, (q : Int), 20000 - (k' : Int), 0, (d : Int) - 1, ())) (h : readF (s, (p : Int), 20000 - (k : Int), 0, (d : Int), ()) K X) : F28 Z (s, (p : Int), 20000 - (k : Int), 0, (d : Int), ()) (wkK K) := by
  unfold readF at h
  dsimp only [Lf.ty, prodL] at h
  rw [Int.toNat_natCast, Int.toNat_natCast, show (20000 - (20000 - (k : Int))).toNat = k by omega] at h
  have hl := bl_len s
  have hnil : ∀ v, (∀ y : Sx, K (.tu [.ag [.bool y.isList, .str y.atom, .sl false .sexp y.list], v]) []) → wkK K (.tu [.ag [.bool false, .str (⟨#[]⟩ : ByteArray), .nil], v]) [] := fun v hv => wkK_nil2 (hv ⟨false, ⟨#[]⟩, []⟩)
  unfold F28
  dsimp only [Lf.ty, prodL]
  rw [bif_dec]
  cases hdr : (bl s).drop p with
  | nil =>
    have := List.drop_eq_nil_iff.1 hdr
    rw [hdr, show rdS d k [] = .err 11 by cases d <;> rfl] at h
    rw [if_pos (by omega)]
    exact hnil _ fun y => h y _ _
  | cons c r =>
    obtain ⟨d1, d2, d3⟩ := drop_next hdr
    rw [hdr] at h
    rw [if_neg (by omega), bif_dec]
    cases d with
    | zero =>
      rw [if_pos (show ((0 : Nat) : Int) = 0 from rfl)]
      unfold F28_J2
      exact hnil _ fun y => h y _ _
    | succ d =>
      rw [if_neg (by omega)]
      simp only [rdS] at h
      unfold F28_J2
      by_cases hk1 : 20000 < k + 1
      · rw [if_pos hk1] at h
        rw [decide_eq_true (by omega), cond_true]
        exact hnil _ fun y => h y _ _
      rw [if_neg hk1] at h
      rw [decide_eq_false (by omega), cond_false]
      refine StrAt_of hdr ?_
      have w1 : IntKind.i64.wrap (20000 - (k : Int) - 1) = 20000 - ((k + 1 : Nat) : Int) := by rw [wrap64 (by omega) (by omega)]; omega
      have w2 : IntKind.i64.wrap ((p : Int) + 1) = ((p + 1 : Nat) : Int) := by rw [wrap64 (by omega) (by omega)]; omega
      have w3 : IntKind.i64.wrap (((d + 1 : Nat) : Int) - 1) = (d : Int) := by rw [wrap64 (by omega) (by omega)]; omega
      rw [bif_not, bif_dec, w1, w2]
      by_cases hc : c.toNat = 40
      · rw [if_pos (by omega)]
        rw [if_neg (by simpa using hc)] at h
        unfold F28_L26
        let Kok (a : List Sx × Nat × List UInt8) : Prop := K (.tu [.ag [.bool true, .str (⟨#[]⟩ : ByteArray), .sl false .sexp a.1], .ag [.str s, .int .i64 ((s.size : Int) - (a.2.2.length : Int)), .int .i64 (20000 - (a.2.1 : Int)), .int .i64 0]]) []
        let Kerr (e : Int) : Prop := ∀ (y : Sx) (p m : Int), K (.tu [.ag [.bool y.isList, .str y.atom, .sl false .sexp y.list], .ag [.str s, .int .i64 p, .int .i64 m, .int .i64 e]]) []
        have h0 : Res.go (rdL (rdS d) (r.length + 1) (k + 1) r []) Kok Kerr := by
          cases hx : rdL (rdS d) (r.length + 1) (k + 1) r [] with
          | ok a => rw [hx] at h; exact h
          | err e => rw [hx] at h; exact h
        refine LoopW.of (fun g => (∃ (q k' : Nat) (acc : List Sx) (m : Nat), g = (((d + 1 : Nat) : Int), s, (q : Int), 20000 - (k' : Int), 0, false, (⟨#[]⟩ : ByteArray), (⟨#[]⟩ : ByteArray), 0, 0, 0, true, (⟨#[]⟩ : ByteArray), acc, ()) ∧ q ≤ s.size ∧ k' ≤ 20000 ∧ acc.length ≤ q ∧ ((bl s).drop q).length < m ∧ Res.go (rdL (rdS d) m k' ((bl s).drop q) acc) Kok Kerr) ∨
            (∃ (q left e : Int) (acc : List Sx), g = (((d + 1 : Nat) : Int), s, q, left, e, false, (⟨#[]⟩ : ByteArray), (⟨#[]⟩ : ByteArray), 0, 0, 0, true, (⟨#[]⟩ : ByteArray), acc, ()) ∧ e ≠ 0 ∧ Kerr e))
          (fun g => if g.2.2.2.2.1 = 0 then 1 + (s.size - g.2.2.1.toNat) else 0) ?_ (.inl ⟨p + 1, k + 1, [], r.length + 1, rfl, by omega, by omega, by simp, by rw [d1]; omega, by rw [d1]; exact h0⟩)
        rintro g (⟨q, k', acc, m, rfl, i1, i2, i3, i4, i5⟩ | ⟨q, left, e, acc, rfl, i1, i2⟩) W hW
        · unfold F28_B26
          dsimp only
          rw [decide_eq_true rfl, cond_true, bif_dec]
          have hJ40 : (∀ c l, (bl s).drop q = c :: l → c.toNat ≠ 41) → F28_J40 (wkK K) W Z ((d + 1 : Nat) : Int) s (q : Int) (20000 - (k' : Int)) 0 false (⟨#[]⟩ : ByteArray) (⟨#[]⟩ : ByteArray) 0 0 0 true (⟨#[]⟩ : ByteArray) acc := fun hne => by
            unfold F28_J40
            rw [w3]
            have hz := hZ q k' i1 i2 (by omega)
            rw [show ((d + 1 : Nat) : Int) - 1 = (d : Int) by omega] at hz
            refine ⟨hz, ?_⟩
            rw [Int.toNat_natCast, Int.toNat_natCast, show (20000 - (20000 - (k' : Int))).toNat = k' by omega]
            have herr : ∀ (y : Sx) (p m e : Int), e ≠ 0 → (∀ e', e' = (if (q : Int) = (s.size : Int) then 11 else e) → Kerr e') → F28_J39 (wkK K) W ((d + 1 : Nat) : Int) s (q : Int) (20000 - (k' : Int)) 0 false (⟨#[]⟩ : ByteArray) (⟨#[]⟩ : ByteArray) 0 0 0 true (⟨#[]⟩ : ByteArray) y.isList y.atom y.list s p m e acc := fun y p m e he hK => by
              unfold F28_J39
              rw [decide_eq_false he, cond_false]
              unfold F28_J38
              rw [bif_dec]
              have hK := hK _ rfl
              split <;> rename_i hq
              · rw [if_pos hq] at hK
                unfold F28_J37
                refine hW _ (.inr ⟨_, _, _, _, rfl, by omega, hK⟩) ?_
                dsimp only
                rw [if_neg (by omega), if_pos rfl]; omega
              · rw [if_neg hq] at hK
                unfold F28_J37
                refine hW _ (.inr ⟨_, _, _, _, rfl, he, hK⟩) ?_
                dsimp only
                rw [if_neg he, if_pos rfl]; omega
            obtain ⟨m', rfl⟩ : ∃ m', m = m' + 1 := ⟨m - 1, by omega⟩
            cases hdq : (bl s).drop q with
            | nil =>
              have := List.drop_eq_nil_iff.1 hdq
              rw [hdq] at i5
              rw [show rdS d k' [] = .err 11 by cases d <;> rfl]
              exact fun y p m => herr y p m 11 (by omega) fun e' he' => by
                have : e' = 11 := by rw [he']; split <;> rfl
                subst this
                exact i5
            | cons c2 r2 =>
              obtain ⟨e1, e2, e3⟩ := drop_next hdq
              rw [hdq] at i5 i4
              have hne := hne c2 r2 hdq
              simp only [rdL, if_neg hne] at i5
              obtain ⟨s1, s2⟩ := rdS_sound d k' (c2 :: r2) i2
              cases hx : rdS d k' (c2 :: r2) with
              | err e =>
                rw [hx] at i5
                have he : e ≠ 0 := by rcases s2 e hx with h | h <;> omega
                exact fun y p m => herr y p m e he fun e' he' => by
                  rw [if_neg (by omega)] at he'
                  subst he'
                  exact i5
              | ok a =>
                obtain ⟨x, k2, l2⟩ := a
                rw [hx] at i5
                obtain ⟨⟨pp, p1, p2, p3⟩, q1, q2⟩ := s1 x k2 l2 hx
                have hppl : 0 < pp.length := List.length_pos_iff.2 p1
                obtain ⟨z1, z2, z3⟩ := drop_rest (hdq.trans p2) i1
                show F28_J39 _ _ _ _ _ _ _ _ _ _ _ _ _ _ _ _ _ _ _ _ _ _ _
                unfold F28_J39
                rw [decide_eq_true rfl, cond_true]
                refine ⟨by simp only [List.length_cons, List.length_nil]; omega, ?_⟩
                unfold F28_J38
                rw [bif_dec, if_neg (by omega)]
                unfold F28_J37
                rw [Sx.eta]
                simp only
                rw [z1]
                refine hW _ (.inl ⟨q + pp.length, k2, acc ++ [x], m', rfl, z3, q2, by simp; omega, ?_, by rw [z2]; exact i5⟩) ?_
                · rw [z2]
                  have := congrArg List.length p2
                  simp only [List.length_append, List.length_cons] at this i4; omega
                · dsimp only
                  rw [if_pos rfl, if_pos rfl, Int.toNat_natCast, Int.toNat_natCast]; omega
          by_cases hq : q = s.size
          · rw [if_pos (by omega)]
            exact hJ40 fun c l hc => by have := (drop_next hc).2.1; omega
          · rw [if_neg (by omega)]
            cases hdq : (bl s).drop q with
            | nil => have := List.drop_eq_nil_iff.1 hdq; omega
            | cons c2 r2 =>
              obtain ⟨e1, e2, e3⟩ := drop_next hdq
              refine StrAt_of hdq ?_
              rw [bif_not, bif_dec]
              by_cases h41 : c2.toNat = 41
              · rw [if_pos (by omega)]
                obtain ⟨m', rfl⟩ : ∃ m', m = m' + 1 := ⟨m - 1, by omega⟩
                rw [hdq] at i5
                simp only [rdL, if_pos h41] at i5
                unfold F28_J42
                rw [wrap64 (n := (q : Int) + 1) (by omega) (by omega), show (q : Int) + 1 = (s.size : Int) - (r2.length : Int) by omega]
                exact wkK_of i5
              · rw [if_neg (by omega)]
                exact hJ40 fun c l hc => by rw [hdq] at hc; injection hc with hc _; subst hc; exact h41
        · unfold F28_B26
          dsimp only
          rw [decide_eq_false i1, cond_false]
          unfold F28_J42
          exact wkK_of (i2 ⟨true, ⟨#[]⟩, acc⟩ _ _)
      · rw [if_neg (by omega)]
        rw [if_pos hc] at h
        refine ⟨⟨⟨by dsimp only; omega, by dsimp only; omega, by rw [lim_eq]; exact hs⟩, rfl⟩, ?_⟩
        rw [Int.toNat_natCast, hdr]
        cases ha : atomR (c :: r) with
        | err e =>
          rw [ha] at h
          intro p6
          unfold F28_J8
          exact wkK_nil2 (h ⟨false, ⟨#[]⟩, []⟩ _ _)
        | ok a =>
          rw [ha] at h
          simp only [Res.go]
          unfold F28_J8
          exact wkK_nil2 h
def rw28 : Raw := rwz28 readPre
theorem rw28_all : ∀ n : Nat, (rwz28 fun g => readPre g ∧ g.2.2.2.2.1 < (n : Int)).Ok Tryd.prog 28
  | 0 => by
    have key : ∀ (s : ByteArray) (p left e d : Int), readPre (s, p, left, e, d, ()) → d < 0 → False := fun s p left e d h h2 => by
      obtain ⟨_, _, _, h3, _⟩ : (0 ≤ p ∧ p ≤ (s.size : Int) ∧ s.size ≤ 2 * lim) ∧ (0 ≤ left ∧ left ≤ 20000) ∧ e = 0 ∧ (0 ≤ d ∧ d ≤ 12) := h
      omega
    rintro ⟨s, p, left, e, d, ⟨⟩⟩ K X ⟨⟨h, h2⟩, _⟩
    exact (key s p left e d h h2).elim
  | n + 1 => by
    have key : ∀ (s : ByteArray) (p left e d : Int) (K X : Kn), readPre (s, p, left, e, d, ()) → d < ((n + 1 : Nat) : Int) → readF (s, p, left, e, d, ()) K X → FCalls Tryd.prog 28 (argsT S28 L28 (s, p, left, e, d, ())) (storeT S28 O28 L28 (s, p, left, e, d, ())) K X := fun s p left e d K X h m hF => by
      obtain ⟨⟨a1, a2, a3⟩, ⟨b1, b2⟩, c, e1, e2⟩ : (0 ≤ p ∧ p ≤ (s.size : Int) ∧ s.size ≤ 2 * lim) ∧ (0 ≤ left ∧ left ≤ 20000) ∧ e = 0 ∧ (0 ≤ d ∧ d ≤ 12) := h
      obtain ⟨p, rfl⟩ := Int.eq_ofNat_of_zero_le a1
      obtain ⟨d, rfl⟩ := Int.eq_ofNat_of_zero_le e1
      subst c
      obtain ⟨k, rfl⟩ : ∃ k : Nat, left = 20000 - (k : Int) := ⟨(20000 - left).toNat, by omega⟩
      rw [lim_eq] at a3
      have hz : ∀ q k' : Nat, q ≤ s.size → k' ≤ 20000 → 1 ≤ d → ((0 ≤ (q : Int) ∧ (q : Int) ≤ (s.size : Int) ∧ s.size ≤ 2 * lim) ∧ (0 ≤ 20000 - (k' : Int) ∧ 20000 - (k' : Int) ≤ 20000) ∧ (0 : Int) = 0 ∧ (0 ≤ (d : Int) - 1 ∧ (d : Int) - 1 ≤ 12)) ∧ (d : Int) - 1 < (n : Int) := fun q k' q1 q2 q3 => by rw [lim_eq]; omega
      exact FCalls.weak (F28_ok _ (rw28_all n) _ _ X (F28_is (X := X) (by omega) a3 (by omega) (by omega) hz hF))
    rintro ⟨s, p, left, e, d, ⟨⟩⟩ K X ⟨⟨h, m⟩, hF⟩
    exact key s p left e d K X h m hF
theorem rw28_ok : rw28.Ok Tryd.prog 28 := fun g K X h => rw28_all (g.2.2.2.2.1.toNat + 1) g K X ⟨⟨h.1, by
  have key : ∀ (s : ByteArray) (p left e d : Int), readPre (s, p, left, e, d, ()) → d < ((d.toNat + 1 : Nat) : Int) := fun s p left e d h => by
    obtain ⟨_, _, _, h3, _⟩ : (0 ≤ p ∧ p ≤ (s.size : Int) ∧ s.size ≤ 2 * lim) ∧ (0 ≤ left ∧ left ≤ 20000) ∧ e = 0 ∧ (0 ≤ d ∧ d ≤ 12) := h
    omega
  obtain ⟨s, p, left, e, d, ⟨⟩⟩ := g
  exact key s p left e d h.1⟩, h.2⟩

/-! ### The program's reader -/
theorem F27_is {Z : prodL L27 → Prop} {s : ByteArray} {p k d : Nat} {K X : Kn} (hp : p ≤ s.size) (hs : s.size ≤ 2147483648) (hk : k ≤ 20000) (hd : d ≤ 12)
    (hZ : ∀ q k' : Nat, q ≤ s.size → k' ≤ 20000 → 1 ≤ d → Z (13 - ((d - 1 : Nat) : Int), s, (q : Int), (k' : Int), ())) (h : sexpF (13 - (d : Int), s, (p : Int), (k : Int), ()) K X) : F27 Z (13 - (d : Int), s, (p : Int), (k : Int), ()) (wkK K) X := by
  unfold sexpF at h
  dsimp only [Lf.ty, prodL] at h
  rw [Int.toNat_natCast, Int.toNat_natCast, show (13 - (13 - (d : Int))).toNat = d by omega] at h
  have hl := bl_len s
  have hpre : ∀ q : Nat, q ≤ s.size → ∀ n : Int, nextPre (s, (q : Int), n, ()) := fun q hq n => ⟨by dsimp only; omega, by dsimp only; omega, by rw [lim_eq]; exact hs⟩
  unfold F27
  dsimp only [Lf.ty, prodL]
  refine ⟨hpre p hp _, ?_⟩
  rw [Int.toNat_natCast]
  cases hdr : (bl s).drop p with
  | nil =>
    rw [hdr, show rdS d k [] = .err 11 by cases d <;> rfl] at h
    exact h _ _
  | cons c r =>
    obtain ⟨d1, d2, d3⟩ := drop_next hdr
    rw [hdr] at h
    show bif decide (20000 < IntKind.i64.wrap ((k : Int) + 1)) then _ else _
    have w1 : IntKind.i64.wrap ((k : Int) + 1) = ((k + 1 : Nat) : Int) := by rw [wrap64 (by omega) (by omega)]; omega
    have w2 : IntKind.i64.wrap ((p : Int) + 1) = ((p + 1 : Nat) : Int) := by rw [wrap64 (by omega) (by omega)]; omega
    rw [w1, bif_dec]
    cases d with
    | zero =>
      have hX : ∀ a b : Int, X (.ic 47 (.ag [.int .i64 12])) [some (.cells [.str s, .int .i64 a, .int .i64 b])] := h
      split
      · unfold F27_J4; exact hX _ _
      · unfold F27_J4; rw [decide_eq_true (by omega), cond_true]; exact hX _ _
    | succ d =>
      simp only [rdS] at h
      by_cases hk1 : 20000 < k + 1
      · rw [if_pos hk1] at h
        rw [if_pos (by omega)]
        unfold F27_J4
        exact h _ _
      rw [if_neg hk1] at h
      rw [if_neg (by omega), decide_eq_false (by omega)]
      unfold F27_J4
      rw [cond_false, bif_not, bif_dec]
      by_cases hc : c.toNat = 40
      · rw [if_pos (by omega), w2]
        rw [if_neg (by simpa using hc)] at h
        unfold F27_L17
        let Kok (a : List Sx × Nat × List UInt8) : Prop := K (.ag [.bool true, .str (⟨#[]⟩ : ByteArray), .sl false .sexp a.1]) [some (.cells [.str s, .int .i64 ((s.size : Int) - (a.2.2.length : Int)), .int .i64 (a.2.1 : Int)])]
        let Kerr (e : Int) : Prop := ∀ (p m : Int), X (.ic 47 (.ag [.int .i64 e])) [some (.cells [.str s, .int .i64 p, .int .i64 m])]
        have h0 : Res.go (rdL (rdS d) (r.length + 1) (k + 1) r []) Kok Kerr := by
          cases hx : rdL (rdS d) (r.length + 1) (k + 1) r [] with
          | ok a => rw [hx] at h; exact h
          | err e => rw [hx] at h; exact h
        refine LoopW.of (fun g => ∃ (q k' : Nat) (acc : List Sx) (m : Nat), g = (13 - ((d + 1 : Nat) : Int), s, (q : Int), (k' : Int), false, (⟨#[]⟩ : ByteArray), true, (⟨#[]⟩ : ByteArray), acc, ()) ∧ q ≤ s.size ∧ k' ≤ 20000 ∧ acc.length ≤ q ∧ ((bl s).drop q).length < m ∧ Res.go (rdL (rdS d) m k' ((bl s).drop q) acc) Kok Kerr)
          (fun g => s.size - g.2.2.1.toNat) ?_ ⟨p + 1, k + 1, [], r.length + 1, rfl, by omega, by omega, by simp, by rw [d1]; omega, by rw [d1]; exact h0⟩
        rintro g ⟨q, k', acc, m, rfl, i1, i2, i3, i4, i5⟩ W hW
        unfold F27_B17
        dsimp only
        refine ⟨hpre q i1 _, ?_⟩
        rw [Int.toNat_natCast]
        obtain ⟨m', rfl⟩ : ∃ m', m = m' + 1 := ⟨m - 1, by omega⟩
        cases hdq : (bl s).drop q with
        | nil =>
          rw [hdq] at i5
          exact i5 _ _
        | cons c2 r2 =>
          obtain ⟨e1, e2, e3⟩ := drop_next hdq
          rw [hdq] at i5 i4
          show bif !decide ((c2.toNat : Int) = 41) then _ else _
          rw [bif_not, bif_dec]
          by_cases h41 : c2.toNat = 41
          · rw [if_pos (by omega)]
            simp only [rdL, if_pos h41] at i5
            rw [wrap64 (n := (q : Int) + 1) (by omega) (by omega), show (q : Int) + 1 = (s.size : Int) - (r2.length : Int) by omega]
            exact wkK_of i5
          · rw [if_neg (by omega)]
            simp only [rdL, if_neg h41] at i5
            have w3 : IntKind.i64.wrap (13 - ((d + 1 : Nat) : Int) + 1) = 13 - (d : Int) := by rw [wrap64 (by omega) (by omega)]; omega
            rw [w3]
            have hz := hZ q k' i1 i2 (by omega)
            rw [show d + 1 - 1 = d from rfl] at hz
            refine ⟨hz, ?_⟩
            rw [Int.toNat_natCast, show (13 - (13 - (d : Int))).toNat = d by omega]
            obtain ⟨s1, s2⟩ := rdS_sound d k' (c2 :: r2) i2
            cases hx : rdS d k' (c2 :: r2) with
            | err e =>
              rw [hx] at i5
              exact fun a b _ => i5 a b
            | ok a =>
              obtain ⟨x, k2, l2⟩ := a
              rw [hx] at i5
              obtain ⟨⟨pp, p1, p2, p3⟩, q1, q2⟩ := s1 x k2 l2 hx
              have hppl : 0 < pp.length := List.length_pos_iff.2 p1
              obtain ⟨z1, z2, z3⟩ := drop_rest (hdq.trans p2) i1
              show Room _ _ _
              refine ⟨by simp only [List.length_cons, List.length_nil]; omega, ?_⟩
              rw [Sx.eta]
              simp only
              rw [z1]
              refine hW _ ⟨q + pp.length, k2, acc ++ [x], m', rfl, z3, q2, by simp; omega, ?_, by rw [z2]; exact i5⟩ ?_
              · rw [z2]
                have := congrArg List.length p2
                simp only [List.length_append, List.length_cons] at this i4; omega
              · dsimp only
                rw [Int.toNat_natCast, Int.toNat_natCast]; omega
      · rw [if_neg (by omega)]
        rw [if_pos hc] at h
        refine ⟨hpre p hp _, ?_⟩
        rw [Int.toNat_natCast, hdr]
        unfold atomR atomG at h
        cases ha : numR true 0 (c :: r) with
        | err e =>
          rw [ha] at h
          exact fun a => h _ _
        | ok a =>
          obtain ⟨n, l2⟩ := a
          rw [ha] at h
          obtain ⟨⟨pp, p1, p2⟩, hn⟩ := numR_ok _ _ _ _ _ ha
          obtain ⟨z1, z2, z3⟩ := drop_rest (hdr.trans p2) hp
          have hz2 := congrArg List.length z2
          rw [List.length_drop] at hz2
          have hn := hn (by omega)
          simp only at h
          show bif decide (IntKind.i64.wrap ((s.size : Int) - ((s.size : Int) - (l2.length : Int))) < (n : Int)) then _ else _
          rw [z1, bif_dec, wrap64 (n := (s.size : Int) - ((p + pp.length : Nat) : Int)) (by omega) (by omega), wrap64 (n := ((p + pp.length : Nat) : Int) + (n : Int)) (by omega) (by omega), wrap64 (by omega) (by omega)]
          by_cases hlt : l2.length < n
          · rw [if_pos hlt] at h
            rw [if_pos (by omega)]
            exact h _ _
          · rw [if_neg hlt] at h
            rw [if_neg (by omega)]
            refine ⟨by omega, by omega, by omega, wkK_nil1 ?_⟩
            have e1 : s.extract (((p + pp.length : Nat) : Int) + (n : Int) - (n : Int)).toNat (((p + pp.length : Nat) : Int) + (n : Int)).toNat = ⟨(l2.take n).toArray⟩ := by
              apply bl_inj
              rw [show bl ⟨(l2.take n).toArray⟩ = l2.take n from bl_mk _, bl_extract, show (((p + pp.length : Nat) : Int) + (n : Int) - (n : Int)).toNat = p + pp.length by omega, show (((p + pp.length : Nat) : Int) + (n : Int)).toNat = p + pp.length + n by omega, List.drop_take, z2, show p + pp.length + n - (p + pp.length) = n by omega]
            have e2 : ((p + pp.length : Nat) : Int) + (n : Int) = (s.size : Int) - ((l2.drop n).length : Int) := by rw [List.length_drop]; omega
            rw [e1, e2]
            exact h
def rw27 : Raw := rwz27 sexpPre
theorem rw27_all : ∀ n : Nat, (rwz27 fun g => sexpPre g ∧ 13 - g.1 < (n : Int)).Ok Tryd.prog 27
  | 0 => by
    have key : ∀ (lv : Int) (s : ByteArray) (p k : Int), sexpPre (lv, s, p, k, ()) → 13 - lv < 0 → False := fun lv s p k h h2 => by
      obtain ⟨⟨_, _⟩, _⟩ : (1 ≤ lv ∧ lv ≤ 13) ∧ (0 ≤ p ∧ p ≤ (s.size : Int) ∧ s.size ≤ 2 * lim) ∧ (0 ≤ k ∧ k ≤ 20000) := h
      omega
    rintro ⟨lv, s, p, k, ⟨⟩⟩ K X ⟨⟨h, h2⟩, _⟩
    exact (key lv s p k h h2).elim
  | n + 1 => by
    have key : ∀ (lv : Int) (s : ByteArray) (p k : Int) (K X : Kn), sexpPre (lv, s, p, k, ()) → 13 - lv < ((n + 1 : Nat) : Int) → sexpF (lv, s, p, k, ()) K X → FCalls Tryd.prog 27 (argsT S27 L27 (lv, s, p, k, ())) (storeT S27 O27 L27 (lv, s, p, k, ())) K X := fun lv s p k K X h m hF => by
      obtain ⟨⟨e1, e2⟩, ⟨a1, a2, a3⟩, b1, b2⟩ : (1 ≤ lv ∧ lv ≤ 13) ∧ (0 ≤ p ∧ p ≤ (s.size : Int) ∧ s.size ≤ 2 * lim) ∧ (0 ≤ k ∧ k ≤ 20000) := h
      obtain ⟨p, rfl⟩ := Int.eq_ofNat_of_zero_le a1
      obtain ⟨k, rfl⟩ := Int.eq_ofNat_of_zero_le b1
      obtain ⟨d, rfl⟩ : ∃ d : Nat, lv = 13 - (d : Int) := ⟨(13 - lv).toNat, by omega⟩
      rw [lim_eq] at a3
      have hz : ∀ q k' : Nat, q ≤ s.size → k' ≤ 20000 → 1 ≤ d → ((1 ≤ 13 - ((d - 1 : Nat) : Int) ∧ 13 - ((d - 1 : Nat) : Int) ≤ 13) ∧ (0 ≤ (q : Int) ∧ (q : Int) ≤ (s.size : Int) ∧ s.size ≤ 2 * lim) ∧ (0 ≤ (k' : Int) ∧ (k' : Int) ≤ 20000)) ∧ 13 - (13 - ((d - 1 : Nat) : Int)) < (n : Int) := fun q k' q1 q2 q3 => by rw [lim_eq]; omega
      exact FCalls.weak (F27_ok _ (rw27_all n) _ _ X (F27_is (X := X) (by omega) a3 (by omega) (by omega) hz hF))
    rintro ⟨lv, s, p, k, ⟨⟩⟩ K X ⟨⟨h, m⟩, hF⟩
    exact key lv s p k K X h m hF
theorem rw27_ok : rw27.Ok Tryd.prog 27 := fun g K X h => rw27_all ((13 - g.1).toNat + 1) g K X ⟨⟨h.1, by
  have key : ∀ (lv : Int) (s : ByteArray) (p k : Int), sexpPre (lv, s, p, k, ()) → 13 - lv < (((13 - lv).toNat + 1 : Nat) : Int) := fun lv s p k h => by
    obtain ⟨⟨_, _⟩, _⟩ : (1 ≤ lv ∧ lv ≤ 13) ∧ (0 ≤ p ∧ p ≤ (s.size : Int) ∧ s.size ≤ 2 * lim) ∧ (0 ≤ k ∧ k ≤ 20000) := h
    omega
  obtain ⟨lv, s, p, k, ⟨⟩⟩ := g
  exact key lv s p k h.1⟩, h.2⟩
end Go.Proofs.YtpbkhdeehlikfaaDoor
