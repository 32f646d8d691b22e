/-
  Csexp: the length of an atom; decimal forms.
-/
import Derived.Test.YtpbkhdeehlikfaaDoorFB2
namespace Go.Proofs.YtpbkhdeehlikfaaDoor
set_option linter.unusedVariables false
set_option linter.unusedSimpArgs false
set_option linter.unusedSectionVars false
open Go.RowKit

theorem F43_is {p : Nat} {s : ByteArray} {k : Int} {K X : Kn} (hp : p ≤ s.size) (hs : s.size ≤ 2147483648) (h : numF (s, (p : Int), k, ()) K X) : F43 (s, (p : Int), k, ()) K X := by
  unfold numF at h
  dsimp only [Lf.ty, prodL] at h
  rw [Int.toNat_natCast] at h
  have hl := bl_len s
  unfold F43 F43_L2
  dsimp only [Lf.ty, prodL]
  refine LoopW.of (fun g => ∃ (first : Bool) (n q : Nat), g = ((n : Int), first, s, (q : Int), k, ()) ∧ q ≤ s.size ∧ n ≤ 65536 ∧ Res.go (numR first n ((bl s).drop q)) (fun a => K (.int .i64 (a.1 : Int)) [some (.cells [.str s, .int .i64 ((s.size : Int) - (a.2.length : Int)), .int .i64 k])]) (fun e => ∀ p : Int, X (.ic 47 (.ag [.int .i64 e])) [some (.cells [.str s, .int .i64 p, .int .i64 k])]))
    (fun g => s.size - g.2.2.2.1.toNat) ?_ ⟨true, 0, p, rfl, hp, by omega, h⟩
  rintro g ⟨first, n, q, rfl, i1, i2, i3⟩ W hW
  unfold F43_B2
  dsimp only
  refine ⟨⟨by dsimp only; omega, by dsimp only; omega, by rw [lim_eq]; exact hs⟩, ?_⟩
  rw [Int.toNat_natCast]
  cases hd : (bl s).drop q with
  | nil =>
    rw [hd] at i3
    exact i3 _
  | cons c r =>
    obtain ⟨d1, d2, d3⟩ := drop_next hd
    rw [hd] at i3
    simp only [numR] at i3
    show bif decide ((c.toNat : Int) = 58) then _ else _
    have w1 : IntKind.i64.wrap ((q : Int) + 1) = ((q + 1 : Nat) : Int) := by rw [wrap64 (by omega) (by omega)]; omega
    have hJ8 : ∀ t : Bool, (t = true ↔ (c.toNat < 48 ∨ 57 < c.toNat ∨ (first = false ∧ n = 0))) → ¬ (c.toNat = 58 ∧ first = false) → F43_J8 K X W (n : Int) (c.toNat : Int) t s (q : Int) k := fun t ht hn => by
      rw [if_neg hn] at i3
      unfold F43_J8
      cases t
      · have hn2 : ¬ (c.toNat < 48 ∨ 57 < c.toNat ∨ (first = false ∧ n = 0)) := fun h => by have := ht.2 h; cases this
        rw [if_neg hn2] at i3
        have h1 : 48 ≤ c.toNat := by omega
        have h2 : c.toNat ≤ 57 := by omega
        have hval : IntKind.i64.wrap ((IntKind.i64.wrap (10 * (n : Int))) + (IntKind.i64.wrap (IntKind.u8.wrap ((c.toNat : Int) - 48)))) = ((10 * n + (c.toNat - 48) : Nat) : Int) := by
          rw [digit_val h1 h2, wrap64 (n := 10 * (n : Int)) (by omega) (by omega), wrap64 (by omega) (by omega)]; omega
        rw [cond_false, hval, bif_dec, w1]
        by_cases h3 : 65536 < 10 * n + (c.toNat - 48)
        · rw [if_pos h3] at i3
          rw [if_pos (by omega)]
          exact i3 _
        · rw [if_neg h3] at i3
          rw [if_neg (by omega)]
          refine hW _ ⟨false, _, q + 1, rfl, by omega, by omega, by rw [d1]; exact i3⟩ ?_
          dsimp only
          rw [Int.toNat_natCast, Int.toNat_natCast]; omega
      · rw [if_pos (ht.1 rfl)] at i3
        exact i3 _
    have hJ6 : ¬ (c.toNat = 58 ∧ first = false) → F43_J6 K X W (n : Int) first (c.toNat : Int) false s (q : Int) k := fun hn => by
      unfold F43_J6
      rw [cond_false, bif_dec]
      split
      · exact hJ8 _ ⟨fun _ => .inl (by omega), fun _ => rfl⟩ hn
      · rw [bif_dec]
        split
        · exact hJ8 _ ⟨fun _ => .inr (.inl (by omega)), fun _ => rfl⟩ hn
        · rw [bif_not]
          cases first
          · rw [cond_false]
            refine hJ8 _ ⟨fun h => .inr (.inr ⟨rfl, by have := of_decide_eq_true h; omega⟩), fun h => decide_eq_true (by omega)⟩ hn
          · rw [cond_true]
            refine hJ8 false ⟨fun h => Bool.noConfusion h, fun h => ?_⟩ hn
            rcases h with h | h | h
            · omega
            · omega
            · cases h.1
    rw [bif_dec]
    by_cases h58 : c.toNat = 58
    · rw [if_pos (by omega)]
      cases first
      · rw [if_pos ⟨h58, rfl⟩] at i3
        unfold F43_J6
        rw [Bool.not_false, cond_true, w1, show ((q + 1 : Nat) : Int) = (s.size : Int) - (r.length : Int) by omega]
        exact i3
      · exact hJ6 (by simp)
    · rw [if_neg (by omega)]
      exact hJ6 (fun h => h58 h.1)
def rw43 : Raw := ⟨S43, O43, L43, 0, fun g K X => nextPre g ∧ numF g K X⟩
theorem rw43_ok : rw43.Ok Tryd.prog 43 := by
  rintro ⟨s, p, n, ⟨⟩⟩ K X ⟨⟨h1, h2, h3⟩, h⟩
  obtain ⟨q, rfl⟩ := Int.eq_ofNat_of_zero_le h1
  rw [lim_eq] at h3
  exact F43_ok _ K X (F43_is (Int.ofNat_le.1 h2) (by dsimp only [Lf.ty] at *; omega) h)

/-! ### Decimal forms -/
def fin35 : List UInt8 → Bool
  | [] => false
  | c :: r => decide (r = []) || !decide (c.toNat = 48)
theorem digs_cons (c : UInt8) (r : List UInt8) : digs (c :: r) = (decide (48 ≤ c.toNat) && decide (c.toNat ≤ 57) && digs r) := rfl
theorem F35_loop {s : ByteArray} {K : Kn} (hs : s.size ≤ 4294967296) (h : K (.bool (digs (bl s) && fin35 (bl s))) []) : F35_L6 K (s, 0, ()) := by
  have hl := bl_len s
  unfold F35_L6
  refine LoopW.fold (bl s) (fun n (_ : Unit) => (s, (n : Int), ())) (fun r n _ => K (.bool (digs r && fin35 (bl s))) [] ∧ (bl s).drop n = r) (a0 := ()) rfl ⟨h, rfl⟩ (fun _ hp W => ?_) (fun n hn r _ hr hp W hW => ?_)
  · unfold F35_B6
    rw [bif_dec, if_neg (by dsimp only; omega), bif_dec]
    have hp := hp.1
    dsimp only
    cases hb : bl s with
    | nil =>
      rw [hb] at hp hl
      simp at hl
      rw [if_neg (by omega), bif_dec, if_neg (by omega)]
      exact hp
    | cons c r =>
      rw [hb] at hp hl
      simp only [List.length_cons] at hl
      by_cases h1 : r = []
      · subst h1
        simp at hl
        rw [if_pos (by omega)]
        simp only [fin35, decide_true, Bool.true_or, Bool.and_true] at hp
        exact hp
      · have : 0 < r.length := List.length_pos_iff.2 h1
        rw [if_neg (by omega), bif_dec, if_pos (by omega)]
        refine StrAt_of (n := 0) (by rw [List.drop_zero]; exact hb) ?_
        simp only [fin35, decide_eq_false h1, Bool.false_or] at hp
        rw [show decide ((c.toNat : Int) = 48) = decide (c.toNat = 48) from decide_eq_decide.2 (by omega)]
        exact hp
  · unfold F35_B6
    obtain ⟨hp, hd⟩ := hp
    obtain ⟨d1, _, _⟩ := drop_next hd
    rw [bif_dec, if_pos (by dsimp only; omega)]
    dsimp only
    refine StrAt_of hd ?_
    rw [digs_cons] at hp
    rw [bif_dec]
    split
    · rename_i h1
      rw [decide_eq_false (show ¬ 48 ≤ (bl s)[n].toNat by omega)] at hp
      exact hp
    · rename_i h1
      refine StrAt_of hd ?_
      rw [decide_eq_true (show 48 ≤ (bl s)[n].toNat by omega), Bool.true_and] at hp
      unfold F35_J10
      by_cases h2 : 57 < (bl s)[n].toNat
      · rw [decide_eq_false (show ¬ (bl s)[n].toNat ≤ 57 by omega)] at hp
        rw [decide_eq_true (by omega)]
        exact hp
      · rw [decide_eq_true (show (bl s)[n].toNat ≤ 57 by omega), Bool.true_and] at hp
        rw [decide_eq_false (by omega), cond_false, wrapS hn (by omega)]
        exact hW () ⟨hp, d1⟩
theorem F35_is {Z : prodL L35 → Prop} {s : ByteArray} {K : Kn} (hs : s.size ≤ 4294967296) (hZ : 1 < s.size → ∀ t : ByteArray, t.size < s.size → Z (t, ())) (h : K (.bool (decR (bl s))) []) : F35 Z (s, ()) K := by
  have hl := bl_len s
  unfold F35
  dsimp only [Lf.ty, prodL]
  rw [bif_dec]
  cases hb : bl s with
  | nil =>
    rw [hb] at hl h
    simp at hl
    rw [if_neg (by omega)]
    unfold F35_J4
    rw [cond_false]
    exact F35_loop hs (by rw [hb]; exact h)
  | cons c r =>
    rw [hb] at hl h
    simp only [List.length_cons] at hl
    simp only [decR] at h
    by_cases hr : r = []
    · subst hr
      simp at hl
      rw [if_neg (by simp)] at h
      rw [if_neg (by omega)]
      unfold F35_J4
      rw [cond_false]
      exact F35_loop hs (by rw [hb]; exact h)
    · have hr0 : 0 < r.length := List.length_pos_iff.2 hr
      rw [if_pos (by omega)]
      refine StrAt_of (n := 0) (by rw [List.drop_zero]; exact hb) ?_
      unfold F35_J4
      by_cases h45 : c.toNat = 45
      · rw [decide_eq_true (show (c.toNat : Int) = 45 by omega), cond_true, bif_not, bif_dec]
        rw [if_pos ⟨h45, hr⟩] at h
        have hc : c = 45 := UInt8.toNat_inj.1 h45
        have hs0 : s = (⟨#[45, 48]⟩ : ByteArray) ↔ r = [48] := by
          constructor
          · intro e
            rw [e] at hb
            simp [bl] at hb
            exact hb.2.symm
          · intro e
            apply bl_inj
            rw [hb, e, hc]; rfl
        by_cases h0 : r = [48]
        · rw [if_pos (hs0.2 h0)]
          rw [decide_eq_true h0] at h
          exact h
        · rw [if_neg fun e => h0 (hs0.1 e)]
          rw [decide_eq_false h0, Bool.not_false, Bool.true_and] at h
          have he : bl (s.extract (1 : Int).toNat (s.size : Int).toNat) = r := by
            rw [bl_extract, hb, Int.toNat_natCast, List.take_of_length_le (by simp only [List.length_cons]; omega)]; rfl
          have hsz : (s.extract (1 : Int).toNat (s.size : Int).toNat).size < s.size := by rw [← bl_len, he]; omega
          refine ⟨by omega, by omega, by omega, hZ (by omega) _ hsz, ?_⟩
          rw [he]
          cases hd : decR r
          · rw [hd, Bool.false_and] at h; exact h
          · rw [hd, Bool.true_and] at h
            rw [cond_true]
            cases r with
            | nil => exact absurd rfl hr
            | cons c2 r2 =>
              refine StrAt_of (n := 1) (by rw [hb]; rfl) ?_
              rw [show decide ((c2.toNat : Int) = 45) = decide ((c2 :: r2).head? = some 45) from decide_eq_decide.2 (by
                simp only [List.head?_cons, Option.some.injEq]
                rw [← UInt8.toNat_inj]
                show _ ↔ c2.toNat = 45
                omega)]
              exact h
      · rw [decide_eq_false (show ¬ (c.toNat : Int) = 45 by omega), cond_false]
        rw [if_neg (by simp [h45])] at h
        exact F35_loop hs (by rw [hb]; exact h)
def strP (s : ByteArray) : Prop := s.size ≤ 4294967296
def sp35 : Sp := spz35 fun g => strP g.1
theorem sp35_all : ∀ n, (spz35 fun g => strP g.1 ∧ g.1.size < n).Ok Tryd.prog 35 true
  | 0 => ⟨fun _ _ _ h _ => absurd h.2 (Nat.not_lt_zero _), fun _ _ _ => rfl, fun _ => rfl, fun _ _ => ⟨rfl, rfl⟩⟩
  | n + 1 => ⟨by
      rintro ⟨s, ⟨⟩⟩ K X ⟨q1, q2⟩ h
      have q1 : s.size ≤ 4294967296 := q1
      have q2 : s.size < n + 1 := q2
      exact F35_ok _ (sp35_all n) _ _ X (F35_is q1 (fun _ t ht => ⟨(by omega : t.size ≤ 4294967296), (by omega : t.size < n)⟩) h), fun _ _ _ => rfl, fun _ => rfl, fun _ _ => ⟨rfl, rfl⟩⟩
theorem sp35_ok : sp35.Ok Tryd.prog 35 true :=
  ⟨fun g K X hp h => (sp35_all (g.1.size + 1)).calls g K X ⟨hp, Nat.lt_succ_self _⟩ h, fun _ _ _ => rfl, fun _ => rfl, fun _ _ => ⟨rfl, rfl⟩⟩

theorem F33_loop {s d : ByteArray} {K : Kn} (hs : d.size ≤ 4294967296) (h : K (.bool (digs (bl d) && !decide (bl d = []) && (!head48 (bl d) || decide (bl s = [48])))) []) : F33_J14 K s d := by
  have hl := bl_len d
  unfold F33_J14 F33_L8
  refine LoopW.fold (bl d) (fun n (_ : Unit) => (s, d, (d.size : Int), (n : Int), ())) (fun r n _ => K (.bool (digs r && !decide (bl d = []) && (!head48 (bl d) || decide (bl s = [48])))) [] ∧ (bl d).drop n = r) (a0 := ()) rfl ⟨h, rfl⟩ (fun _ hp W => ?_) (fun n hn r _ hr hp W hW => ?_)
  · unfold F33_B8
    rw [bif_dec, if_neg (by dsimp only; omega), bif_not, bif_dec]
    have hp := hp.1
    dsimp only
    have hd0 : d = (⟨#[]⟩ : ByteArray) ↔ bl d = [] := ⟨fun e => by rw [e]; rfl, fun e => bl_inj (by rw [e]; rfl)⟩
    cases hb : bl d with
    | nil =>
      rw [hb] at hp
      rw [if_pos (hd0.2 hb)]
      exact hp
    | cons c r =>
      rw [hb] at hp
      rw [if_neg (fun e => by rw [hd0.1 e] at hb; cases hb)]
      refine StrAt_of (n := 0) (by rw [List.drop_zero]; exact hb) ?_
      simp only [digs, List.all_nil, Bool.true_and, reduceCtorEq, decide_false, Bool.not_false, head48] at hp
      have e1 : decide ((c.toNat : Int) = 48) = decide (c.toNat = 48) := decide_eq_decide.2 (by omega)
      have e2 : decide (s = (⟨#[48]⟩ : ByteArray)) = decide (bl s = [48]) := decide_eq_decide.2 ⟨fun e => by rw [e]; rfl, fun e => bl_inj (by rw [e]; rfl)⟩
      rw [bif_not, e1, e2]
      cases hx : decide (c.toNat = 48)
      · rw [hx] at hp; exact hp
      · rw [hx] at hp; exact hp
  · unfold F33_B8
    obtain ⟨hp, hd⟩ := hp
    obtain ⟨d1, _, _⟩ := drop_next hd
    rw [bif_dec, if_pos (by dsimp only; omega)]
    dsimp only
    refine StrAt_of hd ?_
    rw [digs_cons] at hp
    rw [bif_dec]
    split
    · rename_i h1
      rw [decide_eq_false (show ¬ 48 ≤ (bl d)[n].toNat by omega)] at hp
      exact hp
    · rename_i h1
      refine StrAt_of hd ?_
      rw [decide_eq_true (show 48 ≤ (bl d)[n].toNat by omega), Bool.true_and] at hp
      unfold F33_J12
      by_cases h2 : 57 < (bl d)[n].toNat
      · rw [decide_eq_false (show ¬ (bl d)[n].toNat ≤ 57 by omega)] at hp
        rw [decide_eq_true (by omega)]
        exact hp
      · rw [decide_eq_true (show (bl d)[n].toNat ≤ 57 by omega), Bool.true_and] at hp
        rw [decide_eq_false (by omega), cond_false, wrapS hn (by omega)]
        exact hW () ⟨hp, d1⟩
theorem F33_is {s : ByteArray} {K : Kn} (hs : s.size ≤ 4294967296) (h : K (.bool (canR (bl s))) []) : F33 (s, ()) K := by
  have hl := bl_len s
  unfold F33
  dsimp only [Lf.ty, prodL]
  unfold canR at h
  have hsz : (⟨#[45]⟩ : ByteArray).size = 1 := rfl
  have key : (bl s).head? ≠ some 45 → F33_J5 K (s, ()) s (⟨#[45]⟩ : ByteArray) false := fun hn => by
    rw [if_neg hn] at h
    exact F33_loop hs h
  rw [bif_dec, hsz]
  cases hb : bl s with
  | nil =>
    rw [hb] at hl
    simp at hl
    rw [if_neg (by omega)]
    exact key (by rw [hb]; simp)
  | cons c r =>
    rw [hb] at hl
    simp only [List.length_cons] at hl
    rw [if_pos (by omega)]
    refine ⟨by omega, by omega, by omega, ?_⟩
    have e1 : bl (s.extract (0 : Int).toNat ((1 : Nat) : Int).toNat) = [c] := by rw [bl_extract, hb]; rfl
    have e2 : decide (s.extract (0 : Int).toNat ((1 : Nat) : Int).toNat = (⟨#[45]⟩ : ByteArray)) = decide (c = 45) := decide_eq_decide.2 ⟨fun e => by
      rw [e] at e1
      simp [bl] at e1
      exact e1.symm, fun e => bl_inj (by rw [e1, e]; rfl)⟩
    rw [e2]
    by_cases hc : c = 45
    · rw [decide_eq_true hc]
      unfold F33_J5
      rw [cond_true, hsz]
      refine ⟨by omega, by omega, by omega, ?_⟩
      have he : bl (s.extract ((1 : Nat) : Int).toNat (s.size : Int).toNat) = r := by
        rw [bl_extract, hb, Int.toNat_natCast, Int.toNat_natCast, List.take_of_length_le (by simp only [List.length_cons]; omega)]; rfl
      rw [hb, hc] at h
      simp only [List.head?_cons, if_true, List.tail_cons] at h
      refine F33_loop (by rw [← bl_len, he]; omega) ?_
      rw [he, hb, hc]
      exact h
    · rw [decide_eq_false hc]
      exact key (by rw [hb]; simpa using hc)
def sp33 : Sp := ⟨S33, L33, fun g => strP g.1, fun g => .bool (canR (bl g.1)), fun _ => none⟩
theorem sp33_ok : sp33.Ok Tryd.prog 33 true :=
  ⟨by rintro ⟨s, ⟨⟩⟩ K X q1 h; exact F33_ok _ _ X (F33_is q1 h), fun _ _ _ => rfl, fun _ => rfl, fun _ _ => ⟨rfl, rfl⟩⟩
end Go.Proofs.YtpbkhdeehlikfaaDoor
