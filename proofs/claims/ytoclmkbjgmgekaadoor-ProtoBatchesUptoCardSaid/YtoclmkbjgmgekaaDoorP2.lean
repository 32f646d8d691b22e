/-
  Proto: digests, atoms, what is foreign, what is numbered, what is great.
-/
import Derived.Test.YtoclmkbjgmgekaaDoorPB
import Derived.Test.YtoclmkbjgmgekaaDoorPL
namespace Go.Proofs.YtoclmkbjgmgekaaDoor
set_option linter.unusedVariables false
set_option linter.unusedSimpArgs false
set_option linter.unusedSectionVars false
open Go.RowKit
def spL (n : Nat) : Prop := n ≤ 4294967295
def sp86 : Sp := ⟨S86, L86, fun _ => True, fun g => .ag [.bool false, .str (dstr (mkE .dig g)), .nil], fun _ => none⟩
theorem sp86_ok : sp86.Ok Tryd.prog 86 false :=
  ⟨fun g K X _ h => F86_ok g K X ⟨trivial, trivial, h⟩, fun _ _ _ => rfl, fun _ => rfl, fun _ _ => ⟨rfl, rfl⟩⟩
def sp87 : Sp := ⟨S87, L87, fun _ => True, fun g => .ag [.bool false, .str (truB g.1), .nil], fun _ => none⟩
theorem sp87_ok : sp87.Ok Tryd.prog 87 false :=
  ⟨fun g K X _ h => F87_ok g K X (by
    obtain ⟨b, ⟨⟩⟩ := g
    have h : K (.ag [.bool false, .str (truB b), .nil]) [] := h
    unfold F87
    cases b <;> exact ⟨trivial, h⟩), fun _ _ _ => rfl, fun _ => rfl, fun _ _ => ⟨rfl, rfl⟩⟩
theorem F78_is {l : List Dig} {K : Kn} (hl : spL l.length) (h : K (.sl false .sexp (digsX l)) []) : F78 (l, ()) K := by
  unfold spL at hl
  unfold F78
  refine LoopW.map l (fun d => atomX (dstr d)) (fun n out => (l, (l.length : Int), n, out, ())) (by omega) rfl (fun W n hn out ho hW => ?_) fun W => ?_
  · show F78_B5 K W l (l.length : Int) n out
    unfold F78_B5
    rw [lt_true hn, cond_true]
    exact At_of hn ⟨trivial, by simp only [List.length_singleton, ho]; omega, hW⟩
  · show F78_B5 K W l (l.length : Int) (l.length : Int) (l.map fun d => atomX (dstr d))
    unfold F78_B5
    rw [lt_false, cond_false]; exact h
def sp78 : Sp := ⟨S78, L78, fun g => spL g.1.length, fun g => .sl false .sexp (digsX g.1), fun _ => none⟩
theorem sp78_ok : sp78.Ok Tryd.prog 78 false :=
  ⟨fun g K X hp h => F78_ok g K X (F78_is hp h), fun _ _ _ => rfl, fun _ => rfl, fun h => (by cases h)⟩
theorem F79_is {l : List ByteArray} {K : Kn} (hl : spL l.length) (h : K (.sl false .sexp (atomsX l)) []) : F79 (l, ()) K := by
  unfold spL at hl
  unfold F79
  refine LoopW.map l atomX (fun n out => (l, (l.length : Int), n, out, ())) (by omega) rfl (fun W n hn out ho hW => ?_) fun W => ?_
  · show F79_B5 K W l (l.length : Int) n out
    unfold F79_B5
    rw [lt_true hn, cond_true]
    exact At_of hn ⟨trivial, by simp only [List.length_singleton, ho]; omega, hW⟩
  · show F79_B5 K W l (l.length : Int) (l.length : Int) (l.map atomX)
    unfold F79_B5
    rw [lt_false, cond_false]; exact h
def sp79 : Sp := ⟨S79, L79, fun g => spL g.1.length, fun g => .sl false .sexp (atomsX g.1), fun _ => none⟩
theorem sp79_ok : sp79.Ok Tryd.prog 79 false :=
  ⟨fun g K X hp h => F79_ok g K X (F79_is hp h), fun _ _ _ => rfl, fun _ => rfl, fun h => (by cases h)⟩
theorem F50_is {l : List ByteArray} {K : Kn} (hl : spL l.length) (h : K (.sl false .sexp (atomsX l)) []) : F50 (l, ()) K := by
  unfold spL at hl
  unfold F50
  refine LoopW.map l atomX (fun n out => (l, n, out, ())) (by omega) rfl (fun W n hn out ho hW => ?_) fun W => ?_
  · show F50_B5 K W l n out
    unfold F50_B5
    rw [lt_true hn, cond_true]
    exact At_of hn ⟨trivial, by simp only [List.length_singleton, ho]; omega, hW⟩
  · show F50_B5 K W l (l.length : Int) (l.map atomX)
    unfold F50_B5
    rw [lt_false, cond_false]; exact h
def sp50 : Sp := ⟨S50, L50, fun g => spL g.1.length, fun g => .sl false .sexp (atomsX g.1), fun _ => none⟩
theorem sp50_ok : sp50.Ok Tryd.prog 50 false :=
  ⟨fun g K X hp h => F50_ok g K X (F50_is hp h), fun _ _ _ => rfl, fun _ => rfl, fun h => (by cases h)⟩
theorem eqI {n m : Nat} : decide ((n : Int) = (m : Int)) = decide (n = m) := by
  rw [decide_eq_decide]; omega
theorem getQ {α : Type} {a : List α} {n : Nat} (h : n < a.length) : a[n]? = some a[n] := List.getElem?_eq_getElem h
theorem F25_is {a b : List Dig} {K : Kn} (hl : spL a.length) (h : K (.bool (decide (a = b))) []) : F25 (a, b, ()) K := by
  unfold spL at hl
  unfold F25
  show bif !decide ((a.length : Int) = (b.length : Int)) then _ else _
  rw [eqI]
  by_cases e : a.length = b.length
  · rw [decide_eq_true e, Bool.not_true, cond_false]
    rw [dec_same e] at h
    refine LoopW.all a.length (fun n => (a, b, (n : Int), ())) (fun n => decide (a[n]? = b[n]?)) (fun r => K (.bool r) []) h rfl (fun W n hn ht hf => ?_) fun ht W => ?_
    · show F25_B2 K W a b n
      unfold F25_B2
      rw [lt_true hn, cond_true]
      refine At_of hn (At_of (by omega) ?_)
      rw [digEq_eq]
      rw [getQ hn, getQ (show n < b.length by omega)] at ht hf
      simp only [Option.some.injEq] at ht hf
      cases c : decide (a[n] = b[n]) <;> simp only [c, Bool.not_false, Bool.not_true, cond_true, cond_false]
      · exact hf c
      · rw [wrapS hn (by omega)]; exact ht c
    · show F25_B2 K W a b (a.length : Int)
      unfold F25_B2
      rw [lt_false, cond_false]; exact ht
  · rw [decide_eq_false e, Bool.not_false, cond_true]
    have : decide (a = b) = false := decide_eq_false fun c => e (by rw [c])
    rwa [this] at h
def sp25 : Sp := ⟨S25, L25, fun g => spL g.1.length, fun g => .bool (decide (g.1 = g.2.1)), fun _ => none⟩
theorem sp25_ok : sp25.Ok Tryd.prog 25 true :=
  ⟨fun g K X hp h => F25_ok g K X (F25_is hp h), fun _ _ _ => rfl, fun _ => rfl, fun _ _ => ⟨rfl, rfl⟩⟩
theorem F27_is {a b : List ByteArray} {K : Kn} (hl : spL a.length) (h : K (.bool (decide (a = b))) []) : F27 (a, b, ()) K := by
  unfold spL at hl
  unfold F27
  show bif !decide ((a.length : Int) = (b.length : Int)) then _ else _
  rw [eqI]
  by_cases e : a.length = b.length
  · rw [decide_eq_true e, Bool.not_true, cond_false]
    rw [dec_same e] at h
    refine LoopW.all a.length (fun n => (a, b, (n : Int), ())) (fun n => decide (a[n]? = b[n]?)) (fun r => K (.bool r) []) h rfl (fun W n hn ht hf => ?_) fun ht W => ?_
    · show F27_B2 K W a b n
      unfold F27_B2
      rw [lt_true hn, cond_true]
      refine At_of hn (At_of (by omega) ?_)
      rw [getQ hn, getQ (show n < b.length by omega)] at ht hf
      simp only [Option.some.injEq] at ht hf
      cases c : decide (a[n] = b[n]) <;> simp only [c, Bool.not_false, Bool.not_true, cond_true, cond_false]
      · exact hf c
      · rw [wrapS hn (by omega)]; exact ht c
    · show F27_B2 K W a b (a.length : Int)
      unfold F27_B2
      rw [lt_false, cond_false]; exact ht
  · rw [decide_eq_false e, Bool.not_false, cond_true]
    have : decide (a = b) = false := decide_eq_false fun c => e (by rw [c])
    rwa [this] at h
def sp27 : Sp := ⟨S27, L27, fun g => spL g.1.length, fun g => .bool (decide (g.1 = g.2.1)), fun _ => none⟩
theorem sp27_ok : sp27.Ok Tryd.prog 27 true :=
  ⟨fun g K X hp h => F27_ok g K X (F27_is hp h), fun _ _ _ => rfl, fun _ => rfl, fun _ _ => ⟨rfl, rfl⟩⟩
theorem dec_allO {α : Type} {a : List α} (q : α → Bool) : a.all q = decide (∀ n, n < a.length → (a[n]?).all q = true) := by
  rw [Bool.eq_iff_iff, decide_eq_true_eq, List.all_eq_true]
  refine ⟨fun e n h => by rw [getQ h]; exact e _ (List.getElem_mem _), fun e x hx => ?_⟩
  obtain ⟨n, h, rfl⟩ := List.mem_iff_getElem.1 hx
  have := e n h
  rwa [getQ h] at this
/-- The lists of a message are short. -/
def lenP (m : Msg) : Prop := (m.ids.length ≤ 2097152 ∧ m.ranges.length ≤ 2097152 ∧ m.patches.length ≤ 2097152 ∧ m.paths.length ≤ 2097152) ∧ m.sig.revealed.length ≤ 2097152 ∧ m.sig.others.length ≤ 2097152 ∧ m.sig.path.length ≤ 2097152
def restB (m : Msg) : Bool := inB m.sig.index && decide (0 ≤ m.code ∧ m.code ≤ 27)
theorem numbered_is (m : Msg) : numbered m = (decide (∀ n, n < m.ranges.length → (m.ranges[n]?).all (fun r => inB r.count) = true) && restB m) := by
  unfold numbered restB
  rw [dec_allO]
theorem F39_is {m : Msg} {K : Kn} (hl : m.ranges.length ≤ 2097152) (h : K (.bool (numbered m)) []) : F39 (m.kind, m.name, m.ids, m.ranges, m.patches, m.paths, m.code, m.text, m.sig.index, m.sig.revealed, m.sig.others, m.sig.path, ()) K := by
  rw [numbered_is] at h
  unfold F39
  refine LoopW.all m.ranges.length (fun n => (m.ranges, (m.ranges.length : Int), (n : Int), m.kind, m.name, m.ids, m.ranges, m.patches, m.paths, m.code, m.text, m.sig.index, m.sig.revealed, m.sig.others, m.sig.path, ())) (fun n => (m.ranges[n]?).all fun r => inB r.count) (fun r => K (.bool (r && restB m)) []) h rfl (fun W n hn ht hf => ?_) fun ht W => ?_
  · show F39_B2 K W m.ranges (m.ranges.length : Int) n m.kind m.name m.ids m.ranges m.patches m.paths m.code m.text m.sig.index m.sig.revealed m.sig.others m.sig.path
    unfold F39_B2
    rw [lt_true hn, cond_true]
    refine At_of hn ⟨trivial, ?_⟩
    rw [getQ hn] at ht hf
    simp only [Option.all_some] at ht hf
    cases c : inB m.ranges[n].count <;> simp only [Bool.not_false, Bool.not_true, cond_true, cond_false]
    · exact hf c
    · rw [wrapS hn (by omega)]; exact ht c
  · show F39_B2 K W m.ranges (m.ranges.length : Int) (m.ranges.length : Int) m.kind m.name m.ids m.ranges m.patches m.paths m.code m.text m.sig.index m.sig.revealed m.sig.others m.sig.path
    unfold F39_B2
    rw [lt_false, cond_false]
    refine ⟨trivial, ?_⟩
    simp only [Bool.true_and, restB, Bool.decide_and] at ht
    cases c : inB m.sig.index <;> cases c2 : decide (0 ≤ m.code) <;> simp only [c, c2, Bool.true_and, Bool.false_and, cond_true, cond_false] at ht ⊢ <;> exact ht
def sp39 : Sp := ⟨S39, L39, fun g => lenP (mkE .msg g), fun g => .bool (numbered (mkE .msg g)), fun _ => none⟩
theorem sp39_ok : sp39.Ok Tryd.prog 39 true :=
  ⟨fun g K X hp h => F39_ok g K X (F39_is (m := mkE .msg g) hp.1.2.1 h), fun _ _ _ => rfl, fun _ => rfl, fun _ _ => ⟨rfl, rfl⟩⟩
theorem F30_is {m : Msg} {K : Kn} (hl : m.ranges.length ≤ 2097152) (h : K (.bool (!numbered m)) []) : F30 (m.kind, m.name, m.ids, m.ranges, m.patches, m.paths, m.code, m.text, m.sig.index, m.sig.revealed, m.sig.others, m.sig.path, ()) K := by
  rw [numbered_is] at h
  unfold F30
  refine LoopW.all m.ranges.length (fun n => ((n : Int), m.kind, m.name, m.ids, m.ranges, m.patches, m.paths, m.code, m.text, m.sig.index, m.sig.revealed, m.sig.others, m.sig.path, ())) (fun n => (m.ranges[n]?).all fun r => inB r.count) (fun r => K (.bool (!(r && restB m))) []) h rfl (fun W n hn ht hf => ?_) fun ht W => ?_
  · show F30_B2 K W n m.kind m.name m.ids m.ranges m.patches m.paths m.code m.text m.sig.index m.sig.revealed m.sig.others m.sig.path
    unfold F30_B2
    rw [lt_true hn, cond_true]
    refine At_of hn ⟨trivial, ?_⟩
    rw [getQ hn] at ht hf
    simp only [Option.all_some] at ht hf
    cases c : inB m.ranges[n].count <;> simp only [Bool.not_false, Bool.not_true, cond_true, cond_false]
    · exact hf c
    · rw [wrapS hn (by omega)]; exact ht c
  · show F30_B2 K W (m.ranges.length : Int) m.kind m.name m.ids m.ranges m.patches m.paths m.code m.text m.sig.index m.sig.revealed m.sig.others m.sig.path
    unfold F30_B2
    rw [lt_false, cond_false]
    refine ⟨trivial, ?_⟩
    have e1 : decide (0 ≤ m.code) = !decide (m.code < 0) := by by_cases c : m.code < 0 <;> simp [c] <;> omega
    have e2 : decide (m.code ≤ 27) = !decide (27 < m.code) := by by_cases c : 27 < m.code <;> simp [c] <;> omega
    simp only [Bool.true_and, restB, Bool.decide_and, e1, e2] at ht
    cases c : inB m.sig.index <;> cases c2 : decide (m.code < 0) <;> simp only [c, c2, Bool.true_and, Bool.false_and, cond_true, cond_false, Bool.not_true, Bool.not_false, Bool.not_not] at ht ⊢ <;> exact ht
def sp30 : Sp := ⟨S30, L30, fun g => lenP (mkE .msg g), fun g => .bool (!numbered (mkE .msg g)), fun _ => none⟩
theorem sp30_ok : sp30.Ok Tryd.prog 30 true :=
  ⟨fun g K X hp h => F30_ok g K X (F30_is (m := mkE .msg g) hp.1.2.1 h), fun _ _ _ => rfl, fun _ => rfl, fun _ _ => ⟨rfl, rfl⟩⟩
theorem posI {n : Nat} : decide (0 < (n : Int)) = !decide (n = 0) := by
  by_cases c : n = 0 <;> simp [c] <;> omega
section
variable {K : Kn} {k : Int} {t : Bool} {m1 : Int} {m2 : ByteArray} {m3 : List Dig} {m4 : List Rng} {m5 m6 : List ByteArray} {m7 : Int} {m8 : ByteArray} {m9 : Int} {a b p : List Dig}
theorem F29_J6_is (h : K (.bool (t || (!decide (k = 7) && !decide (m6.length = 0)))) []) : F29_J6 K k t m1 m2 m3 m4 m5 m6 m7 m8 m9 a b p := by
  unfold F29_J6
  rw [posI]
  cases t <;> cases c : decide (k = 7) <;> simp only [c, cond_true, cond_false, Bool.true_or, Bool.false_or, Bool.not_true, Bool.not_false, Bool.true_and, Bool.false_and] at h ⊢ <;> exact h
theorem F29_J7_is (h : K (.bool (t || (!decide (k = 6) && (!decide (m7 = 0) || !decide (m8 = (⟨#[]⟩ : ByteArray)))) || (!decide (k = 7) && !decide (m6.length = 0)))) []) : F29_J7 K k t m1 m2 m3 m4 m5 m6 m7 m8 m9 a b p := by
  unfold F29_J7
  cases t <;> cases c : decide (k = 6) <;> cases d : decide (m7 = 0) <;> simp only [c, d, cond_true, cond_false, Bool.true_or, Bool.false_or, Bool.not_true, Bool.not_false, Bool.true_and, Bool.false_and] at h ⊢ <;> exact F29_J6_is (by simpa only [Bool.true_or, Bool.false_or] using h)
theorem F29_J8_is (h : K (.bool (t || (!decide (k = 5) && (!decide (m2 = (⟨#[]⟩ : ByteArray)) || !unsigned ⟨m9, a, b, p⟩)) || (!decide (k = 6) && (!decide (m7 = 0) || !decide (m8 = (⟨#[]⟩ : ByteArray)))) || (!decide (k = 7) && !decide (m6.length = 0)))) []) : F29_J8 K k t m1 m2 m3 m4 m5 m6 m7 m8 m9 a b p := by
  unfold F29_J8
  cases t <;> cases c : decide (k = 5) <;> cases d : decide (m2 = (⟨#[]⟩ : ByteArray)) <;> simp only [c, d, cond_true, cond_false, Bool.true_or, Bool.false_or, Bool.not_true, Bool.not_false, Bool.true_and, Bool.false_and] at h ⊢ <;> first | exact F29_J7_is (by simpa only [Bool.true_or, Bool.false_or] using h) | exact ⟨trivial, F29_J7_is (by simpa only [Bool.true_or, Bool.false_or] using h)⟩
theorem F29_J9_is (h : K (.bool (t || (!decide (k = 3) && !decide (m5.length = 0)) || (!decide (k = 5) && (!decide (m2 = (⟨#[]⟩ : ByteArray)) || !unsigned ⟨m9, a, b, p⟩)) || (!decide (k = 6) && (!decide (m7 = 0) || !decide (m8 = (⟨#[]⟩ : ByteArray)))) || (!decide (k = 7) && !decide (m6.length = 0)))) []) : F29_J9 K k t m1 m2 m3 m4 m5 m6 m7 m8 m9 a b p := by
  unfold F29_J9
  rw [posI]
  cases t <;> cases c : decide (k = 3) <;> simp only [c, cond_true, cond_false, Bool.true_or, Bool.false_or, Bool.not_true, Bool.not_false, Bool.true_and, Bool.false_and] at h ⊢ <;> exact F29_J8_is (by simpa only [Bool.true_or, Bool.false_or] using h)
theorem F29_J10_is (h : K (.bool (t || (!decide (k = 2) && (!decide (k = 5) && !decide (m3.length = 0))) || (!decide (k = 3) && !decide (m5.length = 0)) || (!decide (k = 5) && (!decide (m2 = (⟨#[]⟩ : ByteArray)) || !unsigned ⟨m9, a, b, p⟩)) || (!decide (k = 6) && (!decide (m7 = 0) || !decide (m8 = (⟨#[]⟩ : ByteArray)))) || (!decide (k = 7) && !decide (m6.length = 0)))) []) : F29_J10 K k t m1 m2 m3 m4 m5 m6 m7 m8 m9 a b p := by
  unfold F29_J10
  rw [posI]
  cases t <;> cases c : decide (k = 2) <;> cases d : decide (k = 5) <;> simp only [c, d, cond_true, cond_false, Bool.true_or, Bool.false_or, Bool.not_true, Bool.not_false, Bool.true_and, Bool.false_and] at h ⊢ <;> exact F29_J9_is (by simpa only [d, Bool.true_or, Bool.false_or, Bool.not_true, Bool.not_false, Bool.true_and, Bool.false_and] using h)
end
theorem foreign_is (m : Msg) : foreign m = (!decide (m.kind = 1) && !decide (m.ranges.length = 0) || (!decide (m.kind = 2) && (!decide (m.kind = 5) && !decide (m.ids.length = 0))) || (!decide (m.kind = 3) && !decide (m.patches.length = 0)) || (!decide (m.kind = 5) && (!decide (m.name = (⟨#[]⟩ : ByteArray)) || !unsigned m.sig)) || (!decide (m.kind = 6) && (!decide (m.code = 0) || !decide (m.text = (⟨#[]⟩ : ByteArray)))) || (!decide (m.kind = 7) && !decide (m.paths.length = 0))) := by
  obtain ⟨k, n, i, r, p, q, c, t, g⟩ := m
  unfold foreign bare
  have u0 : unsigned sgn0 = true := rfl
  by_cases h1 : k = 1
  · subst h1; simp [emptyB, Bool.or_comm, Bool.or_left_comm, Bool.or_assoc]
  by_cases h2 : k = 2
  · subst h2; simp [emptyB, Bool.or_comm, Bool.or_left_comm, Bool.or_assoc]
  by_cases h3 : k = 3
  · subst h3; simp [emptyB, Bool.or_comm, Bool.or_left_comm, Bool.or_assoc]
  by_cases h5 : k = 5
  · subst h5; simp [emptyB, u0, Bool.or_comm, Bool.or_left_comm, Bool.or_assoc]
  by_cases h6 : k = 6
  · subst h6; simp [emptyB, Bool.or_comm, Bool.or_left_comm, Bool.or_assoc]
  by_cases h7 : k = 7
  · subst h7; simp [emptyB, Bool.or_comm, Bool.or_left_comm, Bool.or_assoc]
  simp [h1, h2, h3, h5, h6, h7, emptyB, Bool.or_comm, Bool.or_left_comm, Bool.or_assoc]
theorem F29_is {m : Msg} {K : Kn} (h : K (.bool (foreign m)) []) : F29 (m.kind, m.name, m.ids, m.ranges, m.patches, m.paths, m.code, m.text, m.sig.index, m.sig.revealed, m.sig.others, m.sig.path, ()) K := by
  rw [foreign_is] at h
  unfold F29
  show bif !decide (m.kind = 1) then F29_J10 K m.kind (decide (0 < (m.ranges.length : Int))) m.kind m.name m.ids m.ranges m.patches m.paths m.code m.text m.sig.index m.sig.revealed m.sig.others m.sig.path else F29_J10 K m.kind false m.kind m.name m.ids m.ranges m.patches m.paths m.code m.text m.sig.index m.sig.revealed m.sig.others m.sig.path
  rw [posI]
  cases c : decide (m.kind = 1) <;> simp only [c, cond_true, cond_false, Bool.not_true, Bool.not_false, Bool.true_and, Bool.false_and] at h ⊢ <;> exact F29_J10_is h
def sp29 : Sp := ⟨S29, L29, fun _ => True, fun g => .bool (foreign (mkE .msg g)), fun _ => none⟩
theorem sp29_ok : sp29.Ok Tryd.prog 29 true :=
  ⟨fun g K X _ h => F29_ok g K X (F29_is (m := mkE .msg g) h), fun _ _ _ => rfl, fun _ => rfl, fun _ _ => ⟨rfl, rfl⟩⟩
theorem w64 {n : Int} (h : 0 ≤ n ∧ n ≤ 8589934592) : IntKind.i64.wrap n = n := wrap64 (by omega) (by omega)
theorem F37_is {m : Msg} {K : Kn} (hl : lenP m) (h : K (.bool (emptyB m)) []) : F37 (m.kind, m.name, m.ids, m.ranges, m.patches, m.paths, m.code, m.text, m.sig.index, m.sig.revealed, m.sig.others, m.sig.path, ()) K := by
  obtain ⟨⟨l1, l2, l3, l4⟩, l5, l6, l7⟩ := hl
  unfold F37
  simp only
  rw [w64 (n := (m.ids.length : Int) + (m.ranges.length : Int)) (by omega), w64 (n := (m.ids.length : Int) + (m.ranges.length : Int) + (m.patches.length : Int)) (by omega), w64 (n := (m.ids.length : Int) + (m.ranges.length : Int) + (m.patches.length : Int) + (m.paths.length : Int)) (by omega),
    w64 (n := (m.sig.revealed.length : Int) + (m.sig.others.length : Int)) (by omega), w64 (n := (m.sig.revealed.length : Int) + (m.sig.others.length : Int) + (m.sig.path.length : Int)) (by omega)]
  have e1 : decide ((m.ids.length : Int) + (m.ranges.length : Int) + (m.patches.length : Int) + (m.paths.length : Int) = 0) = (decide (m.ids.length = 0) && decide (m.ranges.length = 0) && decide (m.patches.length = 0) && decide (m.paths.length = 0)) := by
    rw [← Bool.decide_and, ← Bool.decide_and, ← Bool.decide_and, decide_eq_decide]; omega
  have e2 : decide ((m.sig.revealed.length : Int) + (m.sig.others.length : Int) + (m.sig.path.length : Int) = 0) = (decide (m.sig.revealed.length = 0) && (decide (m.sig.others.length = 0) && decide (m.sig.path.length = 0))) := by
    rw [← Bool.decide_and, ← Bool.decide_and, decide_eq_decide]; omega
  rw [e1, e2]
  have e : emptyB m = (decide (m.name = ⟨#[]⟩) && (decide (m.text = ⟨#[]⟩) && (decide (m.code = 0) && ((decide (m.ids.length = 0) && decide (m.ranges.length = 0) && decide (m.patches.length = 0) && decide (m.paths.length = 0)) && (decide (m.sig.index = 0) && (decide (m.sig.revealed.length = 0) && (decide (m.sig.others.length = 0) && decide (m.sig.path.length = 0)))))))) := by
    simp only [emptyB, unsigned, Bool.and_assoc]
  rw [e] at h
  generalize (decide (m.ids.length = 0) && decide (m.ranges.length = 0) && decide (m.patches.length = 0) && decide (m.paths.length = 0)) = x at h ⊢
  generalize (decide (m.sig.revealed.length = 0) && (decide (m.sig.others.length = 0) && decide (m.sig.path.length = 0))) = y at h ⊢
  generalize decide (m.name = ⟨#[]⟩) = b1 at h ⊢
  generalize decide (m.text = ⟨#[]⟩) = b2 at h ⊢
  generalize decide (m.code = 0) = b3 at h ⊢
  generalize decide (m.sig.index = 0) = b4 at h ⊢
  cases b1 <;> cases b2 <;> cases b3 <;> cases x <;> cases b4 <;> exact h
def sp37 : Sp := ⟨S37, L37, fun g => lenP (mkE .msg g), fun g => .bool (emptyB (mkE .msg g)), fun _ => none⟩
theorem sp37_ok : sp37.Ok Tryd.prog 37 true :=
  ⟨fun g K X hp h => F37_ok g K X (F37_is (m := mkE .msg g) hp h), fun _ _ _ => rfl, fun _ => rfl, fun _ _ => ⟨rfl, rfl⟩⟩
theorem F38_is {m : Msg} {K : Kn} (h : K (.ag (enc .msg (bare m))) []) : F38 (m.kind, m.name, m.ids, m.ranges, m.patches, m.paths, m.code, m.text, m.sig.index, m.sig.revealed, m.sig.others, m.sig.path, ()) K := by
  obtain ⟨k, n, i, r, p, q, c, t, ⟨g1, g2, g3, g4⟩⟩ := m
  unfold F38
  simp only
  unfold bare at h
  by_cases h1 : k = 1
  · rw [decide_eq_true h1, cond_true]; rw [if_pos h1] at h; exact h
  rw [decide_eq_false h1, cond_false]; rw [if_neg h1] at h
  by_cases h2 : k = 2
  · rw [decide_eq_true h2, cond_true]; rw [if_pos h2] at h; exact h
  rw [decide_eq_false h2, cond_false]; rw [if_neg h2] at h
  by_cases h3 : k = 3
  · rw [decide_eq_true h3, cond_true]; rw [if_pos h3] at h; exact h
  rw [decide_eq_false h3, cond_false]; rw [if_neg h3] at h
  by_cases h5 : k = 5
  · rw [decide_eq_true h5, cond_true]; rw [if_pos h5] at h; exact h
  rw [decide_eq_false h5, cond_false]; rw [if_neg h5] at h
  by_cases h6 : k = 6
  · rw [decide_eq_true h6, cond_true]; rw [if_pos h6] at h; exact h
  rw [decide_eq_false h6, cond_false]; rw [if_neg h6] at h
  by_cases h7 : k = 7
  · rw [decide_eq_true h7, cond_true]; rw [if_pos h7] at h; exact h
  rw [decide_eq_false h7, cond_false]; rw [if_neg h7] at h
  exact h
def sp38 : Sp := ⟨S38, L38, fun _ => True, fun g => .ag (enc .msg (bare (mkE .msg g))), fun _ => none⟩
theorem sp38_ok : sp38.Ok Tryd.prog 38 false :=
  ⟨fun g K X _ h => F38_ok g K X (F38_is (m := mkE .msg g) h), fun _ _ _ => rfl, fun _ => rfl, fun h => (by cases h)⟩
def sumP (l : List ByteArray) : Prop := (l.map bk_str).sum ≤ 2097152
theorem sum_take {l : List ByteArray} {n : Nat} (h : n < l.length) : ((l.take (n + 1)).map ByteArray.size).sum = ((l.take n).map ByteArray.size).sum + l[n].size := by
  rw [take_snoc h, List.map_append, List.sum_append]; simp
theorem sum_bk : ∀ l : List ByteArray, (l.map bk_str).sum = (l.map ByteArray.size).sum + l.length
  | [] => rfl
  | s :: l => by simp only [List.map_cons, List.sum_cons, List.length_cons, sum_bk l, bk_str]; omega
theorem sum_le {l : List ByteArray} (n : Nat) : ((l.take n).map ByteArray.size).sum ≤ (l.map ByteArray.size).sum := by
  have := List.take_append_drop n l
  have e : (l.map ByteArray.size).sum = ((l.take n).map ByteArray.size).sum + ((l.drop n).map ByteArray.size).sum := by
    rw [← List.sum_append, ← List.map_append, this]
  omega
theorem F10_is {l : List ByteArray} {K : Kn} (hl : sumP l) (h : K (.bool (greatS l)) []) : F10 (l, ()) K := by
  unfold sumP at hl
  rw [sum_bk] at hl
  unfold F10
  refine LoopW.countTo l.length (fun n => (l, ((((l.take n).map ByteArray.size).sum : Nat) : Int), (n : Int), ())) (fun _ => True) rfl (fun n hn _ W hW => ?_) trivial
  show F10_B2 K W l ((((l.take n).map ByteArray.size).sum : Nat) : Int) n
  unfold F10_B2
  by_cases hlt : n < l.length
  · rw [lt_true hlt, cond_true]
    refine At_of hlt ?_
    have := hW hlt trivial
    rw [sum_take hlt] at this
    have h1 := sum_le (l := l) (n + 1)
    rw [sum_take hlt] at h1
    rw [wrapS hlt (by omega), w64 (by omega)]
    exact_mod_cast this
  · have : n = l.length := by omega
    subst this
    rw [lt_false, cond_false, List.take_length]
    unfold greatS at h
    have e1 : decide (20 < (l.length : Int)) = decide (20 < l.length) := by rw [decide_eq_decide]; omega
    have e2 : decide (2000 < (((l.map ByteArray.size).sum : Nat) : Int)) = decide (2000 < (l.map ByteArray.size).sum) := by rw [decide_eq_decide]; omega
    rw [e1, e2]
    cases c : decide (20 < l.length) <;> simp only [c, Bool.true_or, Bool.false_or, cond_true, cond_false] at h ⊢ <;> exact h
def sp10 : Sp := ⟨S10, L10, fun g => sumP g.1, fun g => .bool (greatS g.1), fun _ => none⟩
theorem sp10_ok : sp10.Ok Tryd.prog 10 true :=
  ⟨fun g K X hp h => F10_ok g K X (F10_is hp h), fun _ _ _ => rfl, fun _ => rfl, fun _ _ => ⟨rfl, rfl⟩⟩
end Go.Proofs.YtoclmkbjgmgekaaDoor
