/-
  Proto: the law ProtoParts.
-/
import Derived.Test.YtoclmkbjgmgekaaDoorPN
namespace Go.Proofs.YtoclmkbjgmgekaaDoor
set_option linter.unusedVariables false
set_option linter.unusedSimpArgs false
set_option linter.unusedSectionVars false
open Go.RowKit
/-- Messages that hold strings, as many each as fit. -/
inductive Chain (most : Int) : List Msg → List ByteArray → Prop where
  | nil : Chain most [] []
  | cons (p q l : List ByteArray) (b : List Msg) : l = p ++ q → p ≠ [] → 11 + szs p ≤ most → (∀ s r, q = s :: r → ¬ 11 + szs (p ++ [s]) ≤ most) → Chain most b q → Chain most (msg3 p :: b) l
theorem chain_inv {most : Int} {m : Msg} {b : List Msg} {l : List ByteArray} (h : Chain most (m :: b) l) : ∃ p q, m = msg3 p ∧ l = p ++ q ∧ p ≠ [] ∧ 11 + szs p ≤ most ∧ (∀ s r, q = s :: r → ¬ 11 + szs (p ++ [s]) ≤ most) ∧ Chain most b q := by
  cases h with
  | cons p q _ _ h0 h1 h2 h3 h4 => exact ⟨p, q, rfl, h0, h1, h2, h3, h4⟩
theorem chain_bat {most : Int} : ∀ (n : Nat) (l : List ByteArray), l.length ≤ n → (∀ s ∈ l, 11 + szA s ≤ most) → Chain most (batF most n l) l
  | 0, l, h, _ => by
    have : l = [] := List.length_eq_zero_iff.1 (by omega)
    subst this
    exact .nil
  | n + 1, l, h, hf => by
    unfold batF
    by_cases e : l = []
    · subst e; rw [if_pos rfl]; exact .nil
    · rw [if_neg e]
      obtain ⟨s, r, rfl⟩ : ∃ s r, l = s :: r := by cases l with
        | nil => exact absurd rfl e
        | cons s r => exact ⟨s, r, rfl⟩
      have hs := hf s (List.mem_cons_self ..)
      have hpz := szA_pos s
      have hp : 0 < takeN most 11 (s :: r) := takeN_pos.2 hs
      have hle := takeN_le most (s :: r) 11
      have hfit := takeN_fits most (s :: r) 11 (by omega)
      have hm := fun hn => take_more (n := takeN most 11 (s :: r)) (p := s :: r) (most := most) hn (Nat.le_refl _) (fun _ => by omega)
      generalize takeN most 11 (s :: r) = N at *
      have ih := chain_bat n ((s :: r).drop N) (by simp only [List.length_drop]; omega) fun x hx => hf x (List.mem_of_mem_drop hx)
      refine Chain.cons (most := most) ((s :: r).take N) ((s :: r).drop N) _ _ (List.take_append_drop _ _).symm (fun e2 => by
        have := congrArg List.length e2
        simp only [List.length_take, List.length_cons, List.length_nil] at this
        omega) hfit (fun x y hxy => by
        have hlt : N < (s :: r).length := by
          have := congrArg List.length hxy
          simp only [List.length_drop, List.length_cons] at this ⊢
          omega
        have e3 : (s :: r)[N] = x := by
          have := congrArg (·[0]?) hxy
          simp only [List.getElem?_drop, Nat.add_zero, List.getElem?_cons_zero] at this
          rw [getQ hlt] at this
          exact Option.some.inj this
        rw [← e3, ← take_snoc hlt]
        intro e4
        exact Nat.lt_irrefl _ ((hm hlt).2 e4)) ih
theorem chain_len {most : Int} {b : List Msg} {l : List ByteArray} (h : Chain most b l) : b.length ≤ l.length := by
  induction h with
  | nil => exact Nat.le_refl 0
  | cons p q l b h0 h1 h2 h3 h4 ih =>
    have : 0 < p.length := List.length_pos_iff.2 h1
    rw [h0]
    simp only [List.length_cons, List.length_append]; omega
theorem chain_nil {most : Int} {l : List ByteArray} (h : Chain most [] l) : l = [] := by cases h; rfl
theorem fits_chk {p : List ByteArray} {most : Int} (hs : smallS p) (hm : most ≤ 65536) : ((chk (msg3 p)).2 = 0 ∧ ((chk (msg3 p)).1.size : Int) ≤ most) ↔ 11 + szs p ≤ most :=
  fits3 hm (Nat.le_trans (small_len hs) (by omega)) (fun s hq => Nat.le_trans (small_mem hs s hq) (by omega))
section
variable {l : List ByteArray} {most : Int} {b : List Msg}
abbrev W14T := prodL [.sl .str, .int .i64, .sl .msg, .sl .msg, .int .i64, .int .i64, .sl .str] → Prop
theorem F5_J24_is {W : W14T} {n : Nat} {all : List ByteArray} (h : W (l, most, b, b, (b.length : Int), IntKind.i64.wrap ((n : Int) + 1), all, ())) : F5_J24 KT W l most b b (b.length : Int) n all := h
theorem F5_J17_is {W : W14T} {n : Nat} {all p q : List ByteArray} (hn : n < b.length) (hB : b.length ≤ 4000) (hm : most ≤ 65536) (hs : smallS l) (hal : all ++ (p ++ q) = l) (hx : ∀ s r, q = s :: r → ¬ 11 + szs (p ++ [s]) ≤ most) (hc : Chain most (b.drop (n + 1)) q)
    (h : W (l, most, b, b, (b.length : Int), IntKind.i64.wrap ((n : Int) + 1), all ++ p, ())) : F5_J17 KT W l most b n b (b.length : Int) n false all 3 ⟨#[]⟩ [] [] p [] 0 ⟨#[]⟩ 0 [] [] [] := by
  have hsl := small_len hs
  have hlen : all.length + (p.length + q.length) ≤ 4000 := by
    have := congrArg List.length hal
    simp only [List.length_append] at this
    omega
  have hpq : smallS (p ++ q) := by rw [← hal] at hs; exact (small_app hs).2
  unfold F5_J17
  rw [cond_false]
  refine ⟨by omega, ?_⟩
  rw [wrapS hn (by omega)]
  have h24 := F5_J24_is (l := l) (most := most) (b := b) (all := all ++ p) h
  by_cases c : ((n + 1 : Nat) : Int) = (b.length : Int)
  · rw [decide_eq_true c, cond_true]; exact h24
  · rw [decide_eq_false c, cond_false]
    have hlt : n + 1 < b.length := by omega
    rw [List.drop_eq_getElem_cons hlt] at hc
    obtain ⟨p2, q2, e1, e2, e3, _⟩ := chain_inv hc
    obtain ⟨s, r2, rfl⟩ : ∃ s r, p2 = s :: r := by cases p2 with
      | nil => exact absurd rfl e3
      | cons s r => exact ⟨s, r, rfl⟩
    have hno := hx s (r2 ++ q2) (by rw [e2]; rfl)
    have hss : smallS (p ++ [s]) := by
      rw [e2, show p ++ (s :: r2 ++ q2) = (p ++ [s]) ++ (r2 ++ q2) by simp] at hpq
      exact (small_app hpq).1
    refine At_of hlt ?_
    rw [e1]
    rw [decide_eq_false (show ¬ (((msg3 (s :: r2)).patches.length : Int) = 0) by simp only [msg3, List.length_cons]; omega), cond_false]
    refine ⟨by omega, At_of hlt ?_⟩
    rw [e1]
    refine ⟨Int.le_refl 0, s, rfl, by simp only [List.length_singleton]; omega, msg3P hss, ?_⟩
    have hf := fits_chk hss hm
    have hJ : ∀ t : Bool, t = false → F5_J22 KT W l most b b (b.length : Int) n t (all ++ p) := fun t ht => by
      unfold F5_J22
      rw [ht, cond_false]
      exact h24
    show bif decide ((chk (msg3 (p ++ [s]))).2 = 0) then F5_J22 KT W l most b b (b.length : Int) n (decide (((chk (msg3 (p ++ [s]))).1.size : Int) ≤ most)) (all ++ p) else F5_J22 KT W l most b b (b.length : Int) n false (all ++ p)
    by_cases c1 : (chk (msg3 (p ++ [s]))).2 = 0
    · rw [decide_eq_true c1, cond_true]
      exact hJ _ (decide_eq_false fun e => hno (hf.1 ⟨c1, e⟩))
    · rw [decide_eq_false c1, cond_false]
      exact hJ _ rfl
theorem F5_L26_is (hl : l.length ≤ 4000) : F5_L26 KT (l, (l.length : Int), 0, l, ()) := by
  unfold F5_L26
  refine LoopW.countTo l.length (fun n => (l, (l.length : Int), (n : Int), l, ())) (fun _ => True) rfl (fun n hn _ W hW => ?_) trivial
  show F5_B26 KT W l (l.length : Int) n l
  unfold F5_B26
  by_cases hlt : n < l.length
  · rw [lt_true hlt, cond_true]
    refine ⟨by omega, by omega, l[n], by simp [hlt], At_of hlt ?_⟩
    rw [decide_eq_true rfl, Bool.not_true, cond_false, wrapS hlt (by omega)]
    exact hW hlt trivial
  · have : n = l.length := by omega
    rw [this, lt_false, cond_false]
    exact ⟨trivial, rfl⟩
theorem F5_L14_is (hm : most ≤ 65536) (hs : smallS l) (hc : Chain most b l) : F5_L14 KT (l, most, b, b, (b.length : Int), 0, [], ()) := by
  have hsl := small_len hs
  have hbl := chain_len hc
  unfold F5_L14
  refine LoopW.of (fun g => ∃ (n : Nat) (all q : List ByteArray), g = (l, most, b, b, (b.length : Int), (n : Int), all, ()) ∧ n ≤ b.length ∧ all ++ q = l ∧ Chain most (b.drop n) q) (fun g => b.length - g.2.2.2.2.2.1.toNat) ?_ ⟨0, [], l, rfl, Nat.zero_le _, rfl, hc⟩
  rintro _ ⟨n, all, q, rfl, hn, hal, hq⟩ W hW
  show F5_B14 KT W l most b b (b.length : Int) n all
  unfold F5_B14
  by_cases hlt : n < b.length
  · rw [lt_true hlt, cond_true]
    rw [List.drop_eq_getElem_cons hlt] at hq
    obtain ⟨p, q2, e1, e2, e3, e4, e5, e6⟩ := chain_inv hq
    have hps : smallS p := by
      rw [← hal, e2] at hs
      exact (small_app (small_app hs).2).1
    have hf := (fits_chk hps hm).2 e4
    refine At_of hlt ?_
    rw [e1]
    refine ⟨msg3P hps, ?_⟩
    rw [decide_eq_true hf.1, Bool.not_true, cond_false]
    rw [decide_eq_true (show (msg3 p).kind = 3 from rfl), Bool.not_true, cond_false]
    have hp0 : 0 < p.length := List.length_pos_iff.2 e3
    rw [decide_eq_false (show ¬ (((msg3 p).patches.length : Int) = 0) by show ¬ ((p.length : Int) = 0); omega), cond_false]
    rw [decide_eq_false (show ¬ most < ((chk (msg3 p)).1.size : Int) by omega)]
    refine F5_J17_is hlt (by omega) hm hs (show all ++ (p ++ q2) = l by rw [← e2]; exact hal) e5 e6 ?_
    rw [wrapS hlt (by omega)]
    exact hW _ ⟨n + 1, all ++ p, q2, rfl, by omega, by rw [List.append_assoc, ← e2]; exact hal, e6⟩ (by show b.length - ((n + 1 : Nat) : Int).toNat < b.length - ((n : Nat) : Int).toNat; omega)
  · have : n = b.length := by omega
    subst this
    rw [List.drop_length] at hq
    have := chain_nil hq
    subst this
    rw [List.append_nil] at hal
    subst hal
    rw [lt_false, cond_false, decide_eq_true rfl, Bool.not_true, cond_false]
    exact F5_L26_is (by omega)
end
theorem protoParts.calls (g : prodL L5) (hw : wfL L5 g) (hb : bkL L5 g ≤ 1048576) : FCalls Tryd.prog 5 (argsT S5 L5 g) [] (fun r _ => r = .bool true) fun _ _ => False := by
  obtain ⟨l, most, ⟨⟩⟩ := g
  refine F5_ok _ KT _ ?_
  have hs : sumP l := by
    have e : (l.map (bk .str)).sum = (l.map bk_str).sum := rfl
    simp only [bkL, e] at hb
    unfold sumP
    omega
  unfold F5
  refine ⟨hs, ?_⟩
  show bif greatS l then _ else (sp12.pre _ ∧ bif !decide ((batT l most).2 = 0) then (bif decide ((((batT l most).1.length : Nat) : Int) = 0) then _ else _) else F5_L14 KT (l, most, (batT l most).1, (batT l most).1, (((batT l most).1.length : Nat) : Int), 0, [], ()))
  cases h : greatS l with
  | true => rw [cond_true]; exact ⟨trivial, rfl⟩
  | false =>
    rw [cond_false]
    have hq := small_of h
    refine ⟨hq, ?_⟩
    by_cases c : most < 1 ∨ 65536 < most
    · have e : batT l most = ([], 2) := by unfold batT; rw [if_pos c]
      rw [e]
      exact ⟨trivial, rfl⟩
    · by_cases c2 : l.any (nf most) = true
      · have e : batT l most = ([], 4) := by rw [batT_rest c]; unfold restT; rw [if_pos c2]
        rw [e]
        exact ⟨trivial, rfl⟩
      · have hall := any_nf.1 (by simpa using c2 : l.any (nf most) = false)
        have e : batT l most = (batL most l, 0) := by rw [batT_rest c]; unfold restT; rw [if_neg c2]; rfl
        rw [e]
        exact F5_L14_is (Int.not_lt.1 fun e => c (Or.inr e)) hq (chain_bat _ _ (Nat.le_refl _) hall)
end Go.Proofs.YtoclmkbjgmgekaaDoor
