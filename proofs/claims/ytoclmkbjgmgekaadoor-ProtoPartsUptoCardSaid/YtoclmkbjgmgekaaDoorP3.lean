/-
  Proto: ranges, signatures; Same of parts; Great.
-/
import Derived.Test.YtoclmkbjgmgekaaDoorPC
namespace Go.Proofs.YtoclmkbjgmgekaaDoor
set_option linter.unusedVariables false
set_option linter.unusedSimpArgs false
set_option linter.unusedSectionVars false
open Go.RowKit
theorem sx_eta (x : Sx) : (⟨x.isList, x.atom, x.list⟩ : Sx) = x := by cases x; rfl
theorem F49_is {l : List Dig} {K : Kn} (hl : spL l.length) (h : K (.sl false .sexp (digsX l)) []) : F49 (l, ()) K := by
  unfold spL at hl
  unfold F49
  refine LoopW.map l (fun d => atomX (dstr d)) (fun n out => (l, n, out, ())) (by omega) rfl (fun W n hn out ho hW => ?_) fun W => ?_
  · show F49_B5 K W l n out
    unfold F49_B5
    rw [lt_true hn, cond_true]
    exact At_of hn ⟨trivial, by simp only [List.length_singleton, ho]; omega, hW⟩
  · show F49_B5 K W l (l.length : Int) (l.map fun d => atomX (dstr d))
    unfold F49_B5
    rw [lt_false, cond_false]; exact h
def sp49 : Sp := ⟨S49, L49, fun g => spL g.1.length, fun g => .sl false .sexp (digsX g.1), fun _ => none⟩
theorem sp49_ok : sp49.Ok Tryd.prog 49 false :=
  ⟨fun g K X hp h => F49_ok g K X (F49_is hp h), fun _ _ _ => rfl, fun _ => rfl, fun h => (by cases h)⟩
theorem F77_J5_is {r : Rng} {n : Int} {t1 : Bool} {t2 : ByteArray} {K : Kn} (hn : intP n) (hc : intP r.count) (hl : spL r.ids.length) (h : K (.ag [.bool true, .str ⟨#[]⟩, .sl false .sexp [atomX (dstr r.low), atomX (dstr r.high), (intB n).1, numX r.count, atomX (dstr r.print), listX (digsX r.ids)]]) []) : F77_J5 K n r.low.b0 r.low.b1 r.low.b2 r.low.b3 r.low.b4 r.low.b5 r.low.b6 r.low.b7 r.low.b8 r.low.b9 r.low.b10 r.low.b11 r.low.b12 r.low.b13 r.low.b14 r.low.b15 r.low.b16 r.low.b17 r.low.b18 r.low.b19 r.low.b20 r.low.b21 r.low.b22 r.low.b23 r.low.b24 r.low.b25 r.low.b26 r.low.b27 r.low.b28 r.low.b29 r.low.b30 r.low.b31 r.high.b0 r.high.b1 r.high.b2 r.high.b3 r.high.b4 r.high.b5 r.high.b6 r.high.b7 r.high.b8 r.high.b9 r.high.b10 r.high.b11 r.high.b12 r.high.b13 r.high.b14 r.high.b15 r.high.b16 r.high.b17 r.high.b18 r.high.b19 r.high.b20 r.high.b21 r.high.b22 r.high.b23 r.high.b24 r.high.b25 r.high.b26 r.high.b27 r.high.b28 r.high.b29 r.high.b30 r.high.b31 r.listed r.count r.print.b0 r.print.b1 r.print.b2 r.print.b3 r.print.b4 r.print.b5 r.print.b6 r.print.b7 r.print.b8 r.print.b9 r.print.b10 r.print.b11 r.print.b12 r.print.b13 r.print.b14 r.print.b15 r.print.b16 r.print.b17 r.print.b18 r.print.b19 r.print.b20 r.print.b21 r.print.b22 r.print.b23 r.print.b24 r.print.b25 r.print.b26 r.print.b27 r.print.b28 r.print.b29 r.print.b30 r.print.b31 r.ids t1 t2 := by
  unfold F77_J5
  simp only [sx_eta]
  exact ⟨(by decide : (3 : Nat) ≤ 4294967295), Int.le_refl 0, _, rfl, (by decide : (0 : Int) ≤ 1), _, rfl, hn, hc, (by decide : (0 : Int) ≤ 2), _, rfl, hl, trivial, trivial, h⟩
theorem int_tru (b : Bool) : (intB (if b = true then 1 else 0)).1 = atomX (truB b) := by
  have h0 : decB ((0 : Nat) : Int) = ⟨#[UInt8.ofNat (48 + 0)]⟩ := decB_one (by omega)
  have h1 : decB ((1 : Nat) : Int) = ⟨#[UInt8.ofNat (48 + 1)]⟩ := decB_one (by omega)
  cases b
  · show (intB ((0 : Nat) : Int)).1 = _
    unfold intB
    rw [if_neg (by omega), h0]; rfl
  · show (intB ((1 : Nat) : Int)).1 = _
    unfold intB
    rw [if_neg (by omega), h1]; rfl
theorem F77_is {r : Rng} {K : Kn} (hc : intP r.count) (hl : spL r.ids.length) (h : K (.ag (enc .sexp (spanX r))) []) : F77 (r.low.b0, r.low.b1, r.low.b2, r.low.b3, r.low.b4, r.low.b5, r.low.b6, r.low.b7, r.low.b8, r.low.b9, r.low.b10, r.low.b11, r.low.b12, r.low.b13, r.low.b14, r.low.b15, r.low.b16, r.low.b17, r.low.b18, r.low.b19, r.low.b20, r.low.b21, r.low.b22, r.low.b23, r.low.b24, r.low.b25, r.low.b26, r.low.b27, r.low.b28, r.low.b29, r.low.b30, r.low.b31, r.high.b0, r.high.b1, r.high.b2, r.high.b3, r.high.b4, r.high.b5, r.high.b6, r.high.b7, r.high.b8, r.high.b9, r.high.b10, r.high.b11, r.high.b12, r.high.b13, r.high.b14, r.high.b15, r.high.b16, r.high.b17, r.high.b18, r.high.b19, r.high.b20, r.high.b21, r.high.b22, r.high.b23, r.high.b24, r.high.b25, r.high.b26, r.high.b27, r.high.b28, r.high.b29, r.high.b30, r.high.b31, r.listed, r.count, r.print.b0, r.print.b1, r.print.b2, r.print.b3, r.print.b4, r.print.b5, r.print.b6, r.print.b7, r.print.b8, r.print.b9, r.print.b10, r.print.b11, r.print.b12, r.print.b13, r.print.b14, r.print.b15, r.print.b16, r.print.b17, r.print.b18, r.print.b19, r.print.b20, r.print.b21, r.print.b22, r.print.b23, r.print.b24, r.print.b25, r.print.b26, r.print.b27, r.print.b28, r.print.b29, r.print.b30, r.print.b31, r.ids, ()) K := by
  obtain ⟨lo, hi, li, c, p, ids⟩ := r
  have e := int_tru li
  cases li
  · exact F77_J5_is (r := ⟨lo, hi, false, c, p, ids⟩) (n := 0) (t1 := false) (t2 := ⟨#[]⟩) (by unfold intP; decide) hc hl (by rw [show (intB 0).1 = atomX (truB false) from e]; exact h)
  · exact F77_J5_is (r := ⟨lo, hi, true, c, p, ids⟩) (n := 1) (t1 := false) (t2 := ⟨#[]⟩) (by unfold intP; decide) hc hl (by rw [show (intB 1).1 = atomX (truB true) from e]; exact h)
def sp77 : Sp := ⟨S77, L77, fun g => intP (mkE .rng g).count ∧ spL (mkE .rng g).ids.length, fun g => .ag (enc .sexp (spanX (mkE .rng g))), fun _ => none⟩
theorem rng_cells {g : prodL L77} {r : Rng} (e : r = mkE .rng g) : ((r.low.b0, r.low.b1, r.low.b2, r.low.b3, r.low.b4, r.low.b5, r.low.b6, r.low.b7, r.low.b8, r.low.b9, r.low.b10, r.low.b11, r.low.b12, r.low.b13, r.low.b14, r.low.b15, r.low.b16, r.low.b17, r.low.b18, r.low.b19, r.low.b20, r.low.b21, r.low.b22, r.low.b23, r.low.b24, r.low.b25, r.low.b26, r.low.b27, r.low.b28, r.low.b29, r.low.b30, r.low.b31, r.high.b0, r.high.b1, r.high.b2, r.high.b3, r.high.b4, r.high.b5, r.high.b6, r.high.b7, r.high.b8, r.high.b9, r.high.b10, r.high.b11, r.high.b12, r.high.b13, r.high.b14, r.high.b15, r.high.b16, r.high.b17, r.high.b18, r.high.b19, r.high.b20, r.high.b21, r.high.b22, r.high.b23, r.high.b24, r.high.b25, r.high.b26, r.high.b27, r.high.b28, r.high.b29, r.high.b30, r.high.b31, r.listed, r.count, r.print.b0, r.print.b1, r.print.b2, r.print.b3, r.print.b4, r.print.b5, r.print.b6, r.print.b7, r.print.b8, r.print.b9, r.print.b10, r.print.b11, r.print.b12, r.print.b13, r.print.b14, r.print.b15, r.print.b16, r.print.b17, r.print.b18, r.print.b19, r.print.b20, r.print.b21, r.print.b22, r.print.b23, r.print.b24, r.print.b25, r.print.b26, r.print.b27, r.print.b28, r.print.b29, r.print.b30, r.print.b31, r.ids, ()) : prodL L77) = g := by
  subst e
  kernel_rfl
theorem F77_mk {g : prodL L77} {K : Kn} (hp : intP (mkE .rng g).count ∧ spL (mkE .rng g).ids.length) (h : K (.ag (enc .sexp (spanX (mkE .rng g)))) []) : F77 g K := by
  generalize e : mkE .rng g = r at hp h
  have := F77_is (K := K) hp.1 hp.2 h
  rw [rng_cells e.symm] at this
  exact this
set_option maxRecDepth 100000 in
theorem sp77_ok : sp77.Ok Tryd.prog 77 false :=
  ⟨fun g K X hp h => F77_ok g K X (F77_mk hp h), fun _ _ _ => by kernel_rfl, fun _ => by kernel_rfl, fun h => (by cases h)⟩
def sgnP (s : Sgn) : Prop := intP s.index ∧ spL s.revealed.length ∧ spL s.others.length ∧ spL s.path.length
theorem F81_is {s : Sgn} {K : Kn} (hp : sgnP s) (h : K (.ag (enc .sexp (sigX s))) []) : F81 (s.index, s.revealed, s.others, s.path, ()) K := by
  obtain ⟨h1, h2, h3, h4⟩ := hp
  unfold F81
  simp only [sx_eta]
  exact ⟨h1, h2, trivial, h3, trivial, h4, trivial, trivial, h⟩
def sp81 : Sp := ⟨S81, L81, fun g => sgnP (mkE .sgn g), fun g => .ag (enc .sexp (sigX (mkE .sgn g))), fun _ => none⟩
theorem sp81_ok : sp81.Ok Tryd.prog 81 false :=
  ⟨fun g K X hp h => F81_ok g K X (F81_is (s := mkE .sgn g) hp h), fun _ _ _ => rfl, fun _ => rfl, fun h => (by cases h)⟩
theorem rng_eq (x y : Rng) : decide (x = y) = (decide (x.low = y.low) && (decide (x.high = y.high) && (decide (x.listed = y.listed) && (decide (x.count = y.count) && (decide (x.print = y.print) && decide (x.ids = y.ids)))))) := by
  obtain ⟨x1, x2, x3, x4, x5, x6⟩ := x
  obtain ⟨y1, y2, y3, y4, y5, y6⟩ := y
  simp only [Rng.mk.injEq, Bool.decide_and]
theorem F26_is {a b : List Rng} {K : Kn} (hl : spL a.length) (hi : ∀ r ∈ a, spL r.ids.length) (h : K (.bool (decide (a = b))) []) : F26 (a, b, ()) K := by
  unfold spL at hl
  unfold F26
  show bif !decide ((a.length : Int) = (b.length : Int)) then _ else _
  rw [eqI]
  by_cases e : a.length = b.length
  · rw [decide_eq_true e, Bool.not_true, cond_false]
    rw [dec_same e] at h
    refine LoopW.all a.length (fun n => (a, b, (n : Int), ())) (fun n => decide (a[n]? = b[n]?)) (fun r => K (.bool r) []) h rfl (fun W n hn ht hf => ?_) fun ht W => ?_
    · show F26_B2 K W a b n
      unfold F26_B2
      rw [lt_true hn, cond_true]
      refine At_of hn (At_of (by omega) ?_)
      rw [getQ hn, getQ (show n < b.length by omega)] at ht hf
      simp only [Option.some.injEq] at ht hf
      have hi := hi a[n] (List.getElem_mem _)
      have hJ : ∀ t, (t = true → K (.bool false) []) → (t = false → W (a, b, IntKind.i64.wrap ((n : Int) + 1), ())) → F26_J6 K W a b n t := fun t h1 h2 => by
        unfold F26_J6
        cases t
        · exact h2 rfl
        · exact h1 rfl
      rw [wrapS hn (by omega)] at hJ
      rw [rng_eq] at ht hf
      simp only [digEq_eq]
      generalize a[n] = x at ht hf hi ⊢
      generalize b[n] = y at ht hf hi ⊢
      cases c1 : decide (x.low = y.low) <;> simp only [c1, Bool.not_false, Bool.not_true, cond_true, cond_false, Bool.true_and, Bool.false_and] at ht hf ⊢
      · exact hJ _ (fun _ => hf trivial) (fun e => by cases e)
      cases c2 : decide (x.high = y.high) <;> simp only [c2, Bool.not_false, Bool.not_true, cond_true, cond_false, Bool.true_and, Bool.false_and] at ht hf ⊢
      · exact hJ _ (fun _ => hf trivial) (fun e => by cases e)
      cases c3 : decide (x.listed = y.listed) <;> simp only [c3, Bool.not_false, Bool.not_true, cond_true, cond_false, Bool.true_and, Bool.false_and] at ht hf ⊢
      · exact hJ _ (fun _ => hf trivial) (fun e => by cases e)
      cases c4 : decide (x.count = y.count) <;> simp only [c4, Bool.not_false, Bool.not_true, cond_true, cond_false, Bool.true_and, Bool.false_and] at ht hf ⊢
      · exact hJ _ (fun _ => hf trivial) (fun e => by cases e)
      cases c5 : decide (x.print = y.print) <;> simp only [c5, Bool.not_false, Bool.not_true, cond_true, cond_false, Bool.true_and, Bool.false_and] at ht hf ⊢
      · exact hJ _ (fun _ => hf trivial) (fun e => by cases e)
      refine ⟨hi, hJ _ (fun e => hf (by simpa using e)) fun e => ht (by simpa using e)⟩
    · show F26_B2 K W a b (a.length : Int)
      unfold F26_B2
      rw [lt_false, cond_false]; exact ht
  · rw [decide_eq_false e, Bool.not_false, cond_true]
    have : decide (a = b) = false := decide_eq_false fun c => e (by rw [c])
    rwa [this] at h
def sp26 : Sp := ⟨S26, L26, fun g => spL g.1.length ∧ ∀ r ∈ g.1, spL r.ids.length, fun g => .bool (decide (g.1 = g.2.1)), fun _ => none⟩
theorem sp26_ok : sp26.Ok Tryd.prog 26 true :=
  ⟨fun g K X hp h => F26_ok g K X (F26_is hp.1 hp.2 h), fun _ _ _ => rfl, fun _ => rfl, fun _ _ => ⟨rfl, rfl⟩⟩
theorem sgn_eq (x y : Sgn) : decide (x = y) = (decide (x.index = y.index) && (decide (x.revealed = y.revealed) && (decide (x.others = y.others) && decide (x.path = y.path)))) := by
  obtain ⟨x1, x2, x3, x4⟩ := x
  obtain ⟨y1, y2, y3, y4⟩ := y
  simp only [Sgn.mk.injEq, Bool.decide_and]
theorem F28_is {x y : Sgn} {K : Kn} (h2 : spL x.revealed.length) (h3 : spL x.others.length) (h4 : spL x.path.length) (h : K (.bool (decide (x = y))) []) : F28 (x.index, x.revealed, x.others, x.path, y.index, y.revealed, y.others, y.path, ()) K := by
  rw [sgn_eq] at h
  unfold F28
  simp only
  cases c1 : decide (x.index = y.index) <;> simp only [c1, cond_true, cond_false, Bool.true_and, Bool.false_and] at h ⊢
  · exact h
  refine ⟨h2, ?_⟩
  cases c2 : decide (x.revealed = y.revealed) <;> simp only [c2, cond_true, cond_false, Bool.true_and, Bool.false_and] at h ⊢
  · exact h
  refine ⟨h3, ?_⟩
  cases c3 : decide (x.others = y.others) <;> simp only [c3, cond_true, cond_false, Bool.true_and, Bool.false_and] at h ⊢
  · exact h
  exact ⟨h4, h⟩
def sp28 : Sp := ⟨S28, L28, fun g => spL g.2.1.length ∧ spL g.2.2.1.length ∧ spL g.2.2.2.1.length, fun g => .bool (decide ((⟨g.1, g.2.1, g.2.2.1, g.2.2.2.1⟩ : Sgn) = ⟨g.2.2.2.2.1, g.2.2.2.2.2.1, g.2.2.2.2.2.2.1, g.2.2.2.2.2.2.2.1⟩)), fun _ => none⟩
theorem sp28_ok : sp28.Ok Tryd.prog 28 true :=
  ⟨fun g K X hp h => F28_ok g K X (F28_is (x := ⟨g.1, g.2.1, g.2.2.1, g.2.2.2.1⟩) (y := ⟨g.2.2.2.2.1, g.2.2.2.2.2.1, g.2.2.2.2.2.2.1, g.2.2.2.2.2.2.2.1⟩) hp.1 hp.2.1 hp.2.2 h), fun _ _ _ => rfl, fun _ => rfl, fun _ _ => ⟨rfl, rfl⟩⟩
def bkM (m : Msg) : Prop := bk_msg m ≤ 2097152
theorem len_rngs : ∀ l : List Rng, l.length ≤ (l.map bk_rng).sum
  | [] => Nat.le_refl 0
  | r :: l => by have := len_rngs l; simp only [List.map_cons, List.sum_cons, List.length_cons, bk_rng]; omega
theorem bk_parts {m : Msg} (h : bkM m) : lenP m ∧ sumP m.patches ∧ sumP m.paths ∧ m.name.size ≤ 2097152 ∧ m.text.size ≤ 2097152 ∧ (m.ranges.map bk_rng).sum ≤ 2097152 := by
  unfold bkM bk_msg at h
  simp only [bk_digs] at h
  have h1 := len_rngs m.ranges
  have h2 := sum_bk m.patches
  have h3 := sum_bk m.paths
  unfold lenP sumP
  omega
theorem any_not {α : Type} (f : α → Bool) : ∀ l : List α, l.any f = !(l.all fun r => !f r)
  | [] => rfl
  | x :: l => by simp [any_not f l]
def greatR (m : Msg) : Bool := decide (8 < m.ranges.length) || (decide (12 < m.ids.length) || (decide (1000 < m.name.size + m.text.size) || (decide (20 < m.sig.revealed.length + m.sig.others.length + m.sig.path.length) || (greatS m.patches || greatS m.paths))))
theorem great_is (m : Msg) : greatB m = (!(decide (∀ n, n < (m.ranges.take 9).length → ((m.ranges.take 9)[n]?).all (fun r => !decide (8 < r.ids.length)) = true)) || greatR m) := by
  rw [← dec_allO, ← any_not]
  simp only [greatB, greatR, Bool.or_assoc]
theorem F15_J5_is {m : Msg} {K : Kn} (hb : bkM m) (h : K (.bool (greatR m)) []) : F15_J5 K m.kind m.name m.ids m.ranges m.patches m.paths m.code m.text m.sig.index m.sig.revealed m.sig.others m.sig.path := by
  obtain ⟨⟨⟨l1, l2, l3, l4⟩, l5, l6, l7⟩, p1, p2, n1, n2, _⟩ := bk_parts hb
  unfold F15_J5
  rw [w64 (n := (m.name.size : Int) + (m.text.size : Int)) (by omega), w64 (n := (m.sig.revealed.length : Int) + (m.sig.others.length : Int)) (by omega), w64 (n := (m.sig.revealed.length : Int) + (m.sig.others.length : Int) + (m.sig.path.length : Int)) (by omega)]
  have e1 : decide (8 < (m.ranges.length : Int)) = decide (8 < m.ranges.length) := by rw [decide_eq_decide]; omega
  have e2 : decide (12 < (m.ids.length : Int)) = decide (12 < m.ids.length) := by rw [decide_eq_decide]; omega
  have e3 : decide (1000 < (m.name.size : Int) + (m.text.size : Int)) = decide (1000 < m.name.size + m.text.size) := by rw [decide_eq_decide]; omega
  have e4 : decide (20 < (m.sig.revealed.length : Int) + (m.sig.others.length : Int) + (m.sig.path.length : Int)) = decide (20 < m.sig.revealed.length + m.sig.others.length + m.sig.path.length) := by rw [decide_eq_decide]; omega
  rw [e1, e2, e3, e4]
  unfold greatR at h
  cases c1 : decide (8 < m.ranges.length) <;> simp only [c1, cond_true, cond_false, Bool.true_or, Bool.false_or] at h ⊢
  case true => exact h
  cases c2 : decide (12 < m.ids.length) <;> simp only [c2, cond_true, cond_false, Bool.true_or, Bool.false_or] at h ⊢
  case true => exact h
  cases c3 : decide (1000 < m.name.size + m.text.size) <;> simp only [c3, cond_true, cond_false, Bool.true_or, Bool.false_or] at h ⊢
  case true => exact h
  cases c4 : decide (20 < m.sig.revealed.length + m.sig.others.length + m.sig.path.length) <;> simp only [c4, cond_true, cond_false, Bool.true_or, Bool.false_or] at h ⊢
  case true => exact h
  refine ⟨p1, ?_⟩
  cases c5 : greatS m.patches <;> simp only [c5, cond_true, cond_false, Bool.true_or, Bool.false_or] at h ⊢
  · exact ⟨p2, h⟩
  · exact h
theorem F15_is {m : Msg} {K : Kn} (hb : bkM m) (h : K (.bool (greatB m)) []) : F15 (m.kind, m.name, m.ids, m.ranges, m.patches, m.paths, m.code, m.text, m.sig.index, m.sig.revealed, m.sig.others, m.sig.path, ()) K := by
  have hl := (bk_parts hb).1.1.2.1
  rw [great_is] at h
  unfold F15
  have hN : (m.ranges.take 9).length = min 9 m.ranges.length := by simp
  refine LoopW.all (m.ranges.take 9).length (fun n => ((n : Int), m.kind, m.name, m.ids, m.ranges, m.patches, m.paths, m.code, m.text, m.sig.index, m.sig.revealed, m.sig.others, m.sig.path, ())) (fun n => ((m.ranges.take 9)[n]?).all fun r => !decide (8 < r.ids.length)) (fun r => K (.bool (!r || greatR m)) []) h rfl (fun W n hn ht hf => ?_) fun ht W => ?_
  · show F15_B2 K W n m.kind m.name m.ids m.ranges m.patches m.paths m.code m.text m.sig.index m.sig.revealed m.sig.others m.sig.path
    unfold F15_B2
    have hlt : n < m.ranges.length := by omega
    rw [lt_true hlt, cond_true, decide_eq_true (show (n : Int) < 9 by omega), cond_true]
    refine At_of hlt ?_
    rw [List.getElem?_take_of_lt (by omega), getQ hlt] at ht hf
    simp only [Option.all_some] at ht hf
    have e : decide (8 < (m.ranges[n].ids.length : Int)) = decide (8 < m.ranges[n].ids.length) := by rw [decide_eq_decide]; omega
    rw [e]
    cases c : decide (8 < m.ranges[n].ids.length) <;> simp only [c, Bool.not_false, Bool.not_true, cond_true, cond_false] at ht hf ⊢
    · rw [wrapS hlt (by omega)]; exact ht trivial
    · exact hf trivial
  · show F15_B2 K W ((m.ranges.take 9).length : Nat) m.kind m.name m.ids m.ranges m.patches m.paths m.code m.text m.sig.index m.sig.revealed m.sig.others m.sig.path
    unfold F15_B2
    have hJ := F15_J5_is (K := K) hb (by simpa using ht)
    by_cases c : ((m.ranges.take 9).length : Int) < (m.ranges.length : Int)
    · rw [decide_eq_true c, cond_true, decide_eq_false (by omega), cond_false]; exact hJ
    · rw [decide_eq_false c, cond_false]; exact hJ
def sp15 : Sp := ⟨S15, L15, fun g => bkM (mkE .msg g), fun g => .bool (greatB (mkE .msg g)), fun _ => none⟩
theorem sp15_ok : sp15.Ok Tryd.prog 15 true :=
  ⟨fun g K X hp h => F15_ok g K X (F15_is (m := mkE .msg g) hp h), fun _ _ _ => rfl, fun _ => rfl, fun _ _ => ⟨rfl, rfl⟩⟩
end Go.Proofs.YtoclmkbjgmgekaaDoor
