/-
  Proto: Check, sizes, fits.
-/
import Derived.Test.YtoclmkbjgmgekaaDoorPG
namespace Go.Proofs.YtoclmkbjgmgekaaDoor
set_option linter.unusedVariables false
set_option linter.unusedSimpArgs false
set_option linter.unusedSectionVars false
open Go.RowKit
def sp20 : Sp := ⟨S20, L20, fun g => msgP (mkE .msg g), fun g => .int .i64 (chk (mkE .msg g)).2, fun _ => none⟩
theorem sp20_ok : sp20.Ok Tryd.prog 20 true :=
  ⟨fun g K X hp h => F20_ok g K X ⟨hp, h⟩, fun _ _ _ => rfl, fun _ => rfl, fun _ _ => ⟨rfl, rfl⟩⟩
theorem F22_is {s : ByteArray} {K : Kn} (hs : s.size ≤ 1000000) (h : K (.int .i64 (szA s)) []) : F22 (s, ()) K := by
  unfold F22
  have hi : intP (s.size : Int) := ⟨by omega, by omega⟩
  have := itoa_len hi
  refine ⟨hi, ?_⟩
  show K (.int .i64 (IntKind.i64.wrap (IntKind.i64.wrap (((decB (s.size : Int)).size : Int) + 1) + (s.size : Int)))) []
  rw [w64 (n := ((decB (s.size : Int)).size : Int) + 1) (by omega), w64 (by omega)]
  exact h
def sp22 : Sp := ⟨S22, L22, fun g => g.1.size ≤ 1000000, fun g => .int .i64 (szA g.1), fun _ => none⟩
theorem sp22_ok : sp22.Ok Tryd.prog 22 true :=
  ⟨fun g K X hp h => F22_ok g K X (F22_is hp h), fun _ _ _ => rfl, fun _ => rfl, fun _ _ => ⟨rfl, rfl⟩⟩
/-- Strings of the statements' sizes. -/
def smallS (l : List ByteArray) : Prop := (l.map bk_str).sum ≤ 4000
theorem small_mem {l : List ByteArray} (h : smallS l) : ∀ s ∈ l, s.size ≤ 4000 := by
  unfold smallS at h
  rw [sum_bk] at h
  intro s hs
  have : ∀ l : List ByteArray, s ∈ l → s.size ≤ (l.map ByteArray.size).sum := fun l => by
    induction l with
    | nil => intro h; cases h
    | cons x l ih =>
      intro h
      simp only [List.map_cons, List.sum_cons]
      rcases List.mem_cons.1 h with rfl | h
      · omega
      · have := ih h; omega
  have := this _ hs
  omega
theorem small_len {l : List ByteArray} (h : smallS l) : l.length ≤ 4000 := by
  unfold smallS at h
  rw [sum_bk] at h
  omega
theorem small_app {a b : List ByteArray} (h : smallS (a ++ b)) : smallS a ∧ smallS b := by
  unfold smallS at h ⊢
  rw [List.map_append, List.sum_append] at h
  constructor <;> omega
theorem small_take {l : List ByteArray} (n : Nat) (h : smallS l) : smallS (l.take n) := (small_app (a := l.take n) (b := l.drop n) (by rwa [List.take_append_drop])).1
theorem small_drop {l : List ByteArray} (n : Nat) (h : smallS l) : smallS (l.drop n) := (small_app (a := l.take n) (b := l.drop n) (by rwa [List.take_append_drop])).2
theorem msg3P {l : List ByteArray} (h : smallS l) : msgP (msg3 l) := by
  constructor
  · refine ⟨by show IntKind.i64.min ≤ (3 : Int) ∧ (3 : Int) ≤ IntKind.i64.max; decide, fun y hy => by simp [msg3] at hy, fun y hy => by simp [msg3] at hy, fun y hy => trivial, fun y hy => by simp [msg3] at hy, by show IntKind.i64.min ≤ (0 : Int) ∧ (0 : Int) ≤ IntKind.i64.max; decide, by show IntKind.i64.min ≤ (0 : Int) ∧ (0 : Int) ≤ IntKind.i64.max; decide, fun y hy => by simp [msg3, sgn0] at hy, fun y hy => by simp [msg3, sgn0] at hy, fun y hy => by simp [msg3, sgn0] at hy⟩
  · unfold smallS at h
    have e : (⟨#[]⟩ : ByteArray).size = 0 := rfl
    simp only [bk_msg, msg3, sgn0, List.map_nil, List.sum_nil, e]
    omega
def fitsL (l : List ByteArray) (most : Int) : Bool := decide (11 + szs l ≤ most)
theorem F23_is {l : List ByteArray} {most : Int} {K : Kn} (hs : smallS l) (hm : most ≤ 65536) (h : K (.bool (fitsL l most)) []) : F23 (l, most, ()) K := by
  unfold F23
  refine ⟨msg3P hs, ?_⟩
  show bif decide ((chk (msg3 l)).2 = 0) then K (.bool (decide (((chk (msg3 l)).1.size : Int) ≤ most))) [] else K (.bool false) []
  have hf := fits3 hm (Nat.le_trans (small_len hs) (by omega)) (fun s hq => Nat.le_trans (small_mem hs s hq) (by omega))
  unfold fitsL at h
  by_cases c : (chk (msg3 l)).2 = 0
  · rw [decide_eq_true c, cond_true]
    have : decide (((chk (msg3 l)).1.size : Int) ≤ most) = decide (11 + szs l ≤ most) := by
      rw [decide_eq_decide, ← hf]
      exact ⟨fun e => ⟨c, e⟩, fun e => e.2⟩
    rw [this]; exact h
  · rw [decide_eq_false c, cond_false]
    have : decide (11 + szs l ≤ most) = false := decide_eq_false fun e => c (hf.2 e).1
    rwa [this] at h
def sp23 : Sp := ⟨S23, L23, fun g => smallS g.1 ∧ g.2.1 ≤ 65536, fun g => .bool (fitsL g.1 g.2.1), fun _ => none⟩
theorem sp23_ok : sp23.Ok Tryd.prog 23 true :=
  ⟨fun g K X hp h => F23_ok g K X (F23_is hp.1 hp.2 h), fun _ _ _ => rfl, fun _ => rfl, fun _ _ => ⟨rfl, rfl⟩⟩
/-! ### Plain facts for both Batches -/
theorem szs_take_le {l : List ByteArray} {n N : Nat} (h : n ≤ N) : szs (l.take n) ≤ szs (l.take N) := by
  have e : l.take N = l.take n ++ (l.take N).drop n := by
    have := (List.take_append_drop n (l.take N)).symm
    rwa [List.take_take, Nat.min_eq_left h] at this
  rw [e, szs_app]
  have := szs_nonneg ((l.take N).drop n)
  omega
theorem szs_snoc {l : List ByteArray} {n : Nat} (h : n < l.length) : szs (l.take (n + 1)) = szs (l.take n) + szA l[n] := by
  rw [take_snoc h, szs_app]; simp [szs]
def nf (most : Int) (s : ByteArray) : Bool := decide (most < 11 + szA s)
/-- What is left to do. -/
def restT (most : Int) (out : List Msg) (p : List ByteArray) : List Msg × Int := if p.any (nf most) = true then ([], 4) else (out ++ batL most p, 0)
theorem batT_rest {l : List ByteArray} {most : Int} (h : ¬ (most < 1 ∨ 65536 < most)) : batT l most = restT most [] l := by
  unfold batT restT
  rw [if_neg h]
  rfl
theorem any_nf {most : Int} {l : List ByteArray} : l.any (nf most) = false ↔ ∀ s ∈ l, 11 + szA s ≤ most := by
  rw [List.any_eq_false]
  simp only [nf, decide_eq_true_eq, Int.not_lt]
/-- One message: all of its strings fit. -/
theorem rest_step {most : Int} {out : List Msg} {p : List ByteArray} (hn : 0 < takeN most 11 p) : restT most out p = restT most (out ++ [msg3 (p.take (takeN most 11 p))]) (p.drop (takeN most 11 p)) := by
  have hne : p ≠ [] := fun e => by subst e; simp [takeN] at hn
  obtain ⟨s, r, rfl⟩ : ∃ s r, p = s :: r := by cases p with
    | nil => exact absurd rfl hne
    | cons s r => exact ⟨s, r, rfl⟩
  have h1 := takeN_pos.1 hn
  have hs1 := szA_pos s
  have hf := takeN_fits most (s :: r) 11 (by omega)
  generalize hN : takeN most 11 (s :: r) = N at *
  have ht : ∀ x ∈ (s :: r).take N, 11 + szA x ≤ most := fun x hx => by
    have : ∀ l : List ByteArray, x ∈ l → szA x ≤ szs l := fun l => by
      induction l with
      | nil => intro h; cases h
      | cons y l ih =>
        intro h
        have := szA_pos y
        have := szs_nonneg l
        simp only [szs]
        rcases List.mem_cons.1 h with rfl | h
        · omega
        · have := ih h; omega
    have := this _ hx
    omega
  have ha : (s :: r).any (nf most) = ((s :: r).drop N).any (nf most) := by
    have e := List.take_append_drop N (s :: r)
    have : ((s :: r).take N ++ (s :: r).drop N).any (nf most) = ((s :: r).drop N).any (nf most) := by
      rw [List.any_append, any_nf.2 ht, Bool.false_or]
    rwa [e] at this
  unfold restT
  rw [← ha]
  split
  · rfl
  · rename_i hc
    have hall := any_nf.1 (by simpa using hc : (s :: r).any (nf most) = false)
    rw [batL_cons hne hall, hN]
    simp
theorem rest_none {most : Int} {out : List Msg} {p : List ByteArray} (hp : p ≠ []) (hn : takeN most 11 p = 0) : restT most out p = ([], 4) := by
  obtain ⟨s, r, rfl⟩ : ∃ s r, p = s :: r := by cases p with
    | nil => exact absurd rfl hp
    | cons s r => exact ⟨s, r, rfl⟩
  have : ¬ 11 + szA s ≤ most := fun e => by have := (takeN_pos (r := r)).2 e; omega
  unfold restT
  rw [if_pos]
  simp [nf]; omega
theorem rest_nil {most : Int} {out : List Msg} : restT most out [] = (out, 0) := by simp [restT, batL_nil]
/-- Does one more fit? -/
theorem take_more {most : Int} {p : List ByteArray} {n : Nat} (hn : n < p.length) (hN : n ≤ takeN most 11 p) (h11 : 0 < n → 11 ≤ most) : (n < takeN most 11 p ↔ 11 + szs (p.take (n + 1)) ≤ most) := by
  have h0 : 11 + szs (p.take n) ≤ most ∨ n = 0 := by
    rcases Nat.eq_zero_or_pos n with e | e
    · exact .inr e
    · have h1 := takeN_fits most p 11 (h11 e)
      have h2 := szs_take_le (l := p) hN
      exact .inl (by omega)
  have := takeN_iff most p 11 n hn h0
  rw [this]
  exact ⟨fun e => e.2, fun e => ⟨hN, e⟩⟩
end Go.Proofs.YtoclmkbjgmgekaaDoor
