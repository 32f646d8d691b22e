/-
  Proto: Batches, of both.
-/
import Derived.Test.YtoclmkbjgmgekaaDoorPH
namespace Go.Proofs.YtoclmkbjgmgekaaDoor
set_option linter.unusedVariables false
set_option linter.unusedSimpArgs false
set_option linter.unusedSectionVars false
open Go.RowKit
theorem wkK_nilT {K : Kn} {v : T} {s : St} (h : K (.tu [.sl false .msg [], v]) s) : wkK K (.tu [.nil, v]) s :=
  ⟨_, Weak.tu (WeakL.cons (Weak.nil .msg) (WeakL.cons (Weak.refl _) WeakL.nil)), h⟩
/-- Batches' results. -/
def KB (K : Kn) (r : List Msg × Int) : Prop := K (.tu [.sl false .msg r.1, .int .i64 r.2]) []
theorem take_11 {most : Int} {p : List ByteArray} {n : Nat} (hN : n ≤ takeN most 11 p) : 0 < n → 11 ≤ most := fun h => by
  cases p with
  | nil => simp [takeN] at hN; omega
  | cons s r =>
    have := takeN_pos.1 (Nat.lt_of_lt_of_le h hN)
    have := szA_pos s
    omega
theorem F12_L17_is {K : Kn} {W15 : prodL [.sl .str, .int .i64, .int .i64, .sl .msg] → Prop} {p : List ByteArray} {most : Int} {out : List Msg} (hp : p ≠ []) (hs : smallS p) (hm : most ≤ 65536) (ho : out.length ≤ 100000)
    (h : W15 (p.drop (takeN most 11 p), most, 11, out ++ [msg3 (p.take (takeN most 11 p))], ())) : F12_L17 K W15 (p, most, 11, 0, 11, out, ()) := by
  have hl := small_len hs
  have hle := takeN_le most p 11
  have hJ : F12_J21 K W15 p most 11 (takeN most 11 p : Nat) out := by
    unfold F12_J21
    refine ⟨Int.le_refl 0, by omega, rfl, by omega, by simp only [List.length_singleton]; omega, by omega, by omega, ?_⟩
    exact h
  unfold F12_L17
  refine LoopW.countTo (takeN most 11 p) (fun n => (p, most, 11, (n : Int), 11 + szs (p.take n), out, ())) (fun _ => True) (by simp [szs]) (fun n hn _ W hW => ?_) trivial
  show F12_B17 K W15 W p most 11 n (11 + szs (p.take n)) out
  unfold F12_B17
  by_cases hlt : n < p.length
  · rw [lt_true hlt, cond_true, decide_eq_true (show (n : Int) < 19998 by omega), cond_true]
    have hsz := small_mem hs p[n] (List.getElem_mem _)
    have hpos := szs_nonneg (p.take n)
    have hbig : szs (p.take (n + 1)) ≤ 200000 := by
      have : ∀ l : List ByteArray, smallS l → szs l ≤ 200000 := fun l hl => by
        have h1 := small_len hl
        have h2 : ∀ l : List ByteArray, (∀ s ∈ l, s.size ≤ 4000) → szs l ≤ 22 * l.length + (l.map ByteArray.size).sum := fun l => by
          induction l with
          | nil => intro _; simp [szs]
          | cons x l ih =>
            intro h
            have h1 := ih fun s hs => h s (List.mem_cons_of_mem _ hs)
            have h2 := h x (List.mem_cons_self ..)
            have h3 := itoa_len (n := (x.size : Int)) ⟨by omega, by omega⟩
            simp only [szs, szA, List.map_cons, List.sum_cons, List.length_cons]
            omega
        have h3 := h2 l (small_mem hl)
        unfold smallS at hl
        rw [sum_bk] at hl
        omega
      exact this _ (small_take _ hs)
    have hsn := szs_snoc hlt
    have hpz := szA_pos p[n]
    have hnw : IntKind.i64.wrap (11 + szs (p.take n) + szA p[n]) = 11 + szs (p.take (n + 1)) := by
      rw [w64 (by omega), hsn]; omega
    refine At_of hlt ⟨Nat.le_trans hsz (by omega), ?_⟩
    have hmore := take_more hlt hn (take_11 hn)
    rw [hnw]
    by_cases c : 11 + szs (p.take (n + 1)) ≤ most
    · rw [decide_eq_true c, cond_true]
      refine At_of hlt ⟨Nat.le_trans hsz (by omega), ?_⟩
      rw [wrapS hlt (by omega), hnw]
      exact hW (hmore.2 c) trivial
    · rw [decide_eq_false c, cond_false]
      have : n = takeN most 11 p := by
        have := fun e => c (hmore.1 e)
        omega
      rw [this]; exact hJ
  · have e : n = takeN most 11 p := by omega
    rw [decide_eq_false (by omega), cond_false, e]; exact hJ
theorem F12_L15_is {K : Kn} {most : Int} (hm : most ≤ 65536) {l : List ByteArray} (hs : smallS l) (hall : ∀ s ∈ l, 11 + szA s ≤ most) (h : KB K (batL most l, 0)) : F12_L15 (wkK K) (l, most, 11, [], ()) := by
  unfold F12_L15
  refine LoopW.of (fun g => g.2.1 = most ∧ g.2.2.1 = 11 ∧ smallS g.1 ∧ (∀ s ∈ g.1, 11 + szA s ≤ most) ∧ g.2.2.2.1.length + g.1.length ≤ 4000 ∧ KB K (g.2.2.2.1 ++ batL most g.1, 0)) (fun g => g.1.length) ?_ ⟨rfl, rfl, hs, hall, by have := small_len hs; simpa using this, by simpa using h⟩
  rintro ⟨p, m, f, out, ⟨⟩⟩ ⟨i1, i2, i3, i4, i5, i6⟩ W hW
  simp only at i1 i2 i3 i4 i5 i6
  subst i1 i2
  show F12_B15 (wkK K) W p m 11 out
  unfold F12_B15
  by_cases c : 0 < p.length
  · rw [decide_eq_true (by omega), cond_true]
    have hne : p ≠ [] := fun e => by subst e; simp at c
    have hpos : 0 < takeN m 11 p := by
      cases p with
      | nil => exact absurd rfl hne
      | cons s r => exact takeN_pos.2 (i4 s (List.mem_cons_self ..))
    have hle := takeN_le m p 11
    refine F12_L17_is hne i3 hm (by omega) (hW _ ⟨rfl, rfl, small_drop _ i3, fun s hq => i4 s (List.mem_of_mem_drop hq), ?_, ?_⟩ ?_)
    · simp only [List.length_append, List.length_singleton, List.length_drop]; omega
    · have := batL_cons hne i4
      rw [this] at i6
      simpa using i6
    · simp only [List.length_drop]; omega
  · rw [decide_eq_false (by omega), cond_false]
    have : p = [] := List.length_eq_zero_iff.1 (by omega)
    subst this
    rw [batL_nil, List.append_nil] at i6
    exact wkK.same i6
theorem sz_patches : szA (⟨#[112, 97, 116, 99, 104, 101, 115]⟩ : ByteArray) = 9 := by
  have : decB ((7 : Nat) : Int) = ⟨#[UInt8.ofNat (48 + 7)]⟩ := decB_one (by omega)
  unfold szA
  rw [show (⟨#[112, 97, 116, 99, 104, 101, 115]⟩ : ByteArray).size = 7 from rfl, this]; rfl
theorem F12_is {l : List ByteArray} {most : Int} {K : Kn} (hs : smallS l) (h : KB K (batT l most)) : F12 (l, most, ()) (wkK K) := by
  have hJ : F12_J2 (wkK K) l most (decide (most < 1 ∨ 65536 < most)) := by
    unfold F12_J2
    by_cases c : most < 1 ∨ 65536 < most
    · rw [decide_eq_true c, cond_true]
      unfold batT at h
      rw [if_pos c] at h
      exact wkK_nilT h
    · rw [decide_eq_false c, cond_false]
      refine ⟨by show (7 : Nat) ≤ 1000000; omega, ?_⟩
      rw [sz_patches, w64 (by omega)]
      rw [batT_rest c] at h
      have hl := small_len hs
      have hq : (decide (∀ n, n < l.length → (l[n]?).all (fun s => !nf most s) = true) = true → ∀ s ∈ l, 11 + szA s ≤ most) ∧ (KB K (if decide (∀ n, n < l.length → (l[n]?).all (fun s => !nf most s) = true) = true then (batL most l, 0) else ([], 4))) := by
        rw [← dec_allO]
        constructor
        · intro e s hq
          have := List.all_eq_true.1 e s hq
          simpa [nf] using this
        · unfold restT at h
          rw [any_not] at h
          cases e : l.all fun s => !nf most s <;> rw [e] at h <;> simpa using h
      unfold F12_L4
      refine LoopW.all l.length (fun n => (l, most, 2 + 9, l, (l.length : Int), (n : Int), ())) (fun n => (l[n]?).all fun s => !nf most s) (fun r => (r = true → ∀ s ∈ l, 11 + szA s ≤ most) ∧ KB K (if r = true then (batL most l, 0) else ([], 4))) hq rfl (fun W n hn ht hf => ?_) fun ht W => ?_
      · show F12_B4 (wkK K) W l most (2 + 9) l (l.length : Int) n
        unfold F12_B4
        rw [lt_true hn, cond_true]
        have hsz := small_mem hs l[n] (List.getElem_mem _)
        refine At_of hn ⟨Nat.le_trans hsz (by omega), ?_⟩
        rw [getQ hn] at ht hf
        simp only [Option.all_some, nf] at ht hf
        have h3 := itoa_len (n := (l[n].size : Int)) ⟨by omega, by omega⟩
        have hpz := szA_pos l[n]
        have : szA l[n] ≤ 1000000 := by unfold szA; omega
        rw [w64 (by omega)]
        have e : (2 + 9 : Int) + szA l[n] = 11 + szA l[n] := by omega
        rw [e]
        cases c : decide (most < 11 + szA l[n]) <;> simp only [c, Bool.not_false, Bool.not_true, cond_true, cond_false] at ht hf ⊢
        · rw [wrapS hn (by omega)]; exact ht trivial
        · exact wkK_nilT (by simpa [KB] using (hf trivial).2)
      · show F12_B4 (wkK K) W l most (2 + 9) l (l.length : Int) (l.length : Int)
        unfold F12_B4
        rw [lt_false, cond_false]
        exact F12_L15_is (by omega) hs (ht.1 rfl) (by simpa using ht.2)
  unfold F12
  show bif decide (most < 1) then F12_J2 (wkK K) l most true else F12_J2 (wkK K) l most (decide (65536 < most))
  by_cases c : most < 1
  · rw [decide_eq_true c, cond_true]
    rwa [decide_eq_true (Or.inl c)] at hJ
  · rw [decide_eq_false c, cond_false]
    have : decide (most < 1 ∨ 65536 < most) = decide (65536 < most) := by rw [decide_eq_decide]; omega
    rwa [this] at hJ
def sp12 : Sp := ⟨S12, L12, fun g => smallS g.1, fun g => .tu [.sl false .msg (batT g.1 g.2.1).1, .int .i64 (batT g.1 g.2.1).2], fun _ => none⟩
theorem sp12_ok : sp12.Ok Tryd.prog 12 false :=
  ⟨fun g K X hp h => FCalls.weak (F12_ok g (wkK K) X (F12_is hp h)), fun _ _ _ => rfl, fun _ => rfl, fun h => (by cases h)⟩
theorem F13_L12_is {K : Kn} {W10 : prodL [.sl .str, .int .i64, .sl .msg] → Prop} {p : List ByteArray} {most : Int} {out : List Msg} (hp : p ≠ []) (hs : smallS p) (hm : most ≤ 65536) (ho : out.length ≤ 100000)
    (h0 : takeN most 11 p = 0 → K (.tu [.nil, .int .i64 4]) []) (h : 0 < takeN most 11 p → W10 (p.drop (takeN most 11 p), most, out ++ [msg3 (p.take (takeN most 11 p))], ())) : F13_L12 K W10 (p, most, 0, out, ()) := by
  have hl := small_len hs
  have hle := takeN_le most p 11
  have hJ : F13_J14 K W10 p most (takeN most 11 p : Nat) out := by
    unfold F13_J14
    by_cases c : takeN most 11 p = 0
    · rw [decide_eq_true (by omega), cond_true]; exact h0 c
    · rw [decide_eq_false (by omega), cond_false]
      refine ⟨Int.le_refl 0, by omega, by omega, by simp only [List.length_singleton]; omega, by omega, by omega, ?_⟩
      exact h (by omega)
  unfold F13_L12
  refine LoopW.countTo (takeN most 11 p) (fun n => (p, most, (n : Int), out, ())) (fun _ => True) rfl (fun n hn _ W hW => ?_) trivial
  show F13_B12 K W10 W p most n out
  unfold F13_B12
  by_cases hlt : n < p.length
  · rw [lt_true hlt, cond_true]
    rw [wrapS hlt (by omega)]
    have e : (p.take ((n + 1 : Nat) : Int).toNat).drop ((0 : Int).toNat) = p.take (n + 1) := by simp
    rw [e]
    refine ⟨Int.le_refl 0, by omega, by omega, ⟨small_take _ hs, hm⟩, ?_⟩
    have hmore := take_more hlt hn (take_11 hn)
    unfold fitsL
    by_cases c : 11 + szs (p.take (n + 1)) ≤ most
    · rw [decide_eq_true c, cond_true]
      exact hW (hmore.2 c) trivial
    · rw [decide_eq_false c, cond_false]
      have : n = takeN most 11 p := by
        have := fun e => c (hmore.1 e)
        omega
      rw [this]; exact hJ
  · have e : n = takeN most 11 p := by omega
    rw [decide_eq_false (by omega), cond_false, e]; exact hJ
theorem F13_is {l : List ByteArray} {most : Int} {K : Kn} (hs : smallS l) (h : KB K (batT l most)) : F13 (l, most, ()) (wkK K) := by
  have hJ : F13_J2 (wkK K) l most (decide (most < 1 ∨ 65536 < most)) := by
    unfold F13_J2
    by_cases c : most < 1 ∨ 65536 < most
    · rw [decide_eq_true c, cond_true]
      unfold batT at h
      rw [if_pos c] at h
      exact wkK_nilT h
    · rw [decide_eq_false c, cond_false]
      rw [batT_rest c] at h
      unfold F13_L10
      refine LoopW.of (fun g => g.2.1 = most ∧ smallS g.1 ∧ g.2.2.1.length + g.1.length ≤ 4000 ∧ KB K (restT most g.2.2.1 g.1)) (fun g => g.1.length) ?_ ⟨rfl, hs, by have := small_len hs; simpa using this, h⟩
      rintro ⟨p, m, out, ⟨⟩⟩ ⟨i1, i3, i5, i6⟩ W hW
      simp only at i1 i3 i5 i6
      subst i1
      show F13_B10 (wkK K) W p m out
      unfold F13_B10
      by_cases c2 : 0 < p.length
      · rw [decide_eq_true (by omega), cond_true]
        have hne : p ≠ [] := fun e => by subst e; simp at c2
        have hle := takeN_le m p 11
        refine F13_L12_is hne i3 (by omega) (by omega) (fun e => ?_) fun e => hW _ ⟨rfl, small_drop _ i3, ?_, ?_⟩ ?_
        · rw [rest_none hne e] at i6
          exact wkK_nilT i6
        · simp only [List.length_append, List.length_singleton, List.length_drop]; omega
        · rw [rest_step e] at i6
          exact i6
        · simp only [List.length_drop]; omega
      · rw [decide_eq_false (by omega), cond_false]
        have : p = [] := List.length_eq_zero_iff.1 (by omega)
        subst this
        rw [rest_nil] at i6
        exact wkK.same i6
  unfold F13
  show bif decide (most < 1) then F13_J2 (wkK K) l most true else F13_J2 (wkK K) l most (decide (65536 < most))
  by_cases c : most < 1
  · rw [decide_eq_true c, cond_true]
    rwa [decide_eq_true (Or.inl c)] at hJ
  · rw [decide_eq_false c, cond_false]
    have : decide (most < 1 ∨ 65536 < most) = decide (65536 < most) := by rw [decide_eq_decide]; omega
    rwa [this] at hJ
def sp13 : Sp := ⟨S13, L13, fun g => smallS g.1, fun g => .tu [.sl false .msg (batT g.1 g.2.1).1, .int .i64 (batT g.1 g.2.1).2], fun _ => none⟩
theorem sp13_ok : sp13.Ok Tryd.prog 13 false :=
  ⟨fun g K X hp h => FCalls.weak (F13_ok g (wkK K) X (F13_is hp h)), fun _ _ _ => rfl, fun _ => rfl, fun h => (by cases h)⟩
end Go.Proofs.YtoclmkbjgmgekaaDoor
