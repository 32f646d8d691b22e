/-
  Proto: sizes of expressions.
-/
import Derived.Test.YtoclmkbjgmgekaaDoorP0
namespace Go.Proofs.YtoclmkbjgmgekaaDoor
set_option linter.unusedVariables false
set_option linter.unusedSimpArgs false
set_option linter.unusedSectionVars false
open Go.RowKit
/-- A loop that asks of all whether, and ends at the first that does not. -/
theorem LoopW.all {γ : Type} {body : (γ → Prop) → γ → Prop} {g : γ} (N : Nat) (S : Nat → γ) (p : Nat → Bool) (Q : Bool → Prop) (hQ : Q (decide (∀ n, n < N → p n = true))) (hg : g = S 0)
    (step : ∀ (W : γ → Prop) (n : Nat), n < N → (p n = true → W (S (n + 1))) → (p n = false → Q false) → body W (S n)) (last : Q true → ∀ W : γ → Prop, body W (S N)) : LoopW body g := by
  refine LoopW.countTo N S (fun n => ∀ i, i < n → p i = true) hg (fun n hn hp W hW => ?_) fun i hi => by omega
  by_cases hlt : n < N
  · refine step W n hlt (fun h => hW hlt fun i hi => ?_) fun h => ?_
    · by_cases e : i = n
      · rw [e]; exact h
      · exact hp i (by omega)
    · have : decide (∀ n, n < N → p n = true) = false := by
        rw [decide_eq_false_iff_not]
        intro ha
        have := ha n hlt
        rw [h] at this; cases this
      rwa [this] at hQ
  · have : n = N := by omega
    subst this
    have : decide (∀ i, i < n → p i = true) = true := by rw [decide_eq_true_eq]; exact hp
    rw [this] at hQ
    exact last hQ W
theorem dec_same {α : Type} [DecidableEq α] {a b : List α} (h : a.length = b.length) : decide (a = b) = decide (∀ n, n < a.length → decide (a[n]? = b[n]?) = true) := by
  rw [decide_eq_decide]
  refine ⟨fun e n _ => by rw [e]; simp, fun e => List.ext_getElem? fun n => ?_⟩
  by_cases hn : n < a.length
  · simpa using e n hn
  · rw [List.getElem?_eq_none (by omega), List.getElem?_eq_none (by omega)]
theorem decB_one {n : Nat} (h : n < 10) : decB (n : Int) = ⟨#[UInt8.ofNat (48 + n)]⟩ := by
  unfold decB Lib.itoa
  rw [if_neg (by omega), show ((n : Int)).toNat = n by omega, Lib.decDigits_one h]
theorem dstr_size (d : Dig) : (dstr d).size = 32 := rfl
theorem bkS_atom (s : ByteArray) : bkS (atomX s) = s.size + 3 := by simp [atomX, bkS, bkSs]
theorem bkS_list (l : List Sx) : bkS (listX l) = bkSs l + 3 := by
  have : (⟨#[]⟩ : ByteArray).size = 0 := rfl
  simp only [listX, bkS, this]; omega
theorem bkSs_digs (l : List Dig) : bkSs (digsX l) = 35 * l.length := by
  induction l with
  | nil => simp [digsX, bkSs]
  | cons d l ih => simp only [digsX, List.map_cons, bkSs, bkS_atom, dstr_size, List.length_cons] at ih ⊢; omega
theorem bk_digs (l : List Dig) : (l.map bk_dig).sum = 32 * l.length := by
  induction l with
  | nil => rfl
  | cons d l ih => simp only [List.map_cons, List.sum_cons, bk_dig, List.length_cons] at ih ⊢; omega
theorem bkSs_atoms (l : List ByteArray) : bkSs (atomsX l) ≤ 3 * (l.map bk_str).sum := by
  induction l with
  | nil => simp [atomsX, bkSs]
  | cons d l ih => simp only [atomsX, List.map_cons, bkSs, bkS_atom, List.sum_cons, bk_str] at ih ⊢; omega
theorem itoa_len {n : Int} (h : intP n) : (decB n).size ≤ 21 := by
  obtain ⟨h1, h2⟩ := h
  show (Lib.itoa n).toArray.size ≤ 21
  rw [List.size_toArray]
  unfold Lib.itoa
  split
  · have := dec_len 19 n.natAbs (by omega)
    simp only [List.length_cons]; omega
  · have := dec_len 19 n.toNat (by omega)
    omega
theorem bkS_num {n : Int} (h : intP n) : bkS (numX n) ≤ 24 := by
  have := itoa_len h
  unfold numX intB
  split
  · simp only [sx0, bkS, bkSs]; exact Nat.le_of_ble_eq_true rfl
  · simp only [bkS, bkSs]; omega
theorem bkS_tru (b : Bool) : bkS (atomX (truB b)) = 4 := by cases b <;> rfl
theorem wf_count {r : Rng} (h : wf_rng r) : intP r.count := by
  have h : IntKind.i64.min ≤ r.count ∧ r.count ≤ IntKind.i64.max := h.2.2.2.2.2.2.2.2.2.2.2.2.2.2.2.2.2.2.2.2.2.2.2.2.2.2.2.2.2.2.2.2.2.2.2.2.2.2.2.2.2.2.2.2.2.2.2.2.2.2.2.2.2.2.2.2.2.2.2.2.2.2.2.2.1
  exact h
theorem bkS_span {r : Rng} (h : wf_rng r) : bkS (spanX r) ≤ 2 * bk_rng r := by
  have := bkS_num (wf_count h)
  have ht : (truB r.listed).size = 1 := by cases r.listed <;> rfl
  simp only [spanX, bkS_list, bkSs, bkS_atom, dstr_size, bkS_tru, bkSs_digs, bk_rng, bk_digs] at this ⊢
  omega
theorem bkSs_ranges {l : List Rng} (h : ∀ r ∈ l, wf_rng r) : bkSs (rangesX l) ≤ 2 * (l.map bk_rng).sum := by
  induction l with
  | nil => simp [rangesX, bkSs]
  | cons d l ih =>
    have h1 := bkS_span (h d (List.mem_cons_self ..))
    have h2 := ih fun r hr => h r (List.mem_cons_of_mem _ hr)
    simp only [rangesX, List.map_cons, bkSs, List.sum_cons] at h1 h2 ⊢; omega
theorem wf_index {g : Sgn} (h : wf_sgn g) : intP g.index := h.1
theorem bkS_sig {g : Sgn} (h : wf_sgn g) : bkS (sigX g) ≤ 36 + 2 * bk_sgn g := by
  have := bkS_num (wf_index h)
  simp only [sigX, bkS_list, bkSs, bkSs_digs, bk_sgn, bk_digs] at this ⊢
  omega
theorem word_size (k : Int) : (wordN k).size ≤ 7 := by
  unfold wordN words8
  have : ∀ n : Nat, ((words8.getD n ⟨#[]⟩).size ≤ 7) := by
    intro n
    match n with
    | 0 | 1 | 2 | 3 | 4 | 5 | 6 | 7 => decide
    | n + 8 => exact Nat.zero_le _
  exact this _
/-- A message of the statements' sizes. -/
def msgP (m : Msg) : Prop := wf_msg m ∧ bk_msg m ≤ 2097152
theorem msgP_sig {m : Msg} (h : msgP m) : wf_sgn m.sig := ⟨h.1.2.2.2.2.2.2.1, h.1.2.2.2.2.2.2.2⟩
theorem bkS_sexp {m : Msg} (h : msgP m) : bkS (sexpX m) ≤ lim := by
  obtain ⟨hw, hb⟩ := h
  have hw' := hw
  obtain ⟨_, _, hr, _, _, hc, hs⟩ := hw'
  have hs : wf_sgn m.sig := hs
  have w := word_size m.kind
  have s1 := bkS_sig hs
  have s2 := bkSs_ranges hr
  have s3 := bkS_num (n := m.code) hc
  have s4 := bkSs_digs m.ids
  have s5 := bkSs_atoms m.patches
  have s6 := bkSs_atoms m.paths
  unfold bk_msg at hb
  unfold bk_sgn at s1
  simp only [bk_digs] at hb s1
  have hf : bkSs (fieldsX m) ≤ 10000000 := by
    unfold fieldsX
    split
    · omega
    split
    · omega
    split
    · omega
    split
    · simp only [bkSs, bkS_atom, bkS_list]; omega
    split
    · simp only [bkSs, bkS_atom]; omega
    split
    · omega
    · simp [bkSs]
  simp only [sexpX, bkS_list, bkSs, bkS_atom, lim]
  omega
end Go.Proofs.YtoclmkbjgmgekaaDoor
