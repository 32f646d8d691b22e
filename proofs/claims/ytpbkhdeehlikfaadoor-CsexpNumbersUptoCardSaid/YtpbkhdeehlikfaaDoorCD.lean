/-
  Csexp: count and add.
-/
import Derived.Test.YtpbkhdeehlikfaaDoorCC
namespace Go.Proofs.YtpbkhdeehlikfaaDoor
set_option linter.unusedVariables false
set_option linter.unusedSimpArgs false
set_option linter.unusedSectionVars false
open Go.RowKit

mutual
theorem cnt_le : ∀ (x : Sx) (lim d : Int), 0 ≤ lim → 1 ≤ cnt x lim d ∧ cnt x lim d ≤ lim + 1
  | ⟨b, a, l⟩, lim, d, h => by
    simp only [cnt]
    split
    · omega
    · split
      · omega
      · rename_i h1 _
        exact cnts_le l lim (d - 1) 1 (by omega) (by omega)
theorem cnts_le : ∀ (l : List Sx) (lim d n : Int), 1 ≤ n → n ≤ lim + 1 → 1 ≤ cnts l lim d n ∧ cnts l lim d n ≤ lim + 1
  | [], lim, d, n, h1, h2 => by simp only [cnts]; omega
  | x :: l, lim, d, n, h1, h2 => by
    simp only [cnts]
    split
    · have := cnt_le x (lim - n) d (by omega)
      exact cnts_le l lim d _ (by omega) (by omega)
    · omega
end
theorem sub1 {d N : Int} (h1 : 1 ≤ d) (h2 : d ≤ N) : 0 ≤ d - 1 ∧ d - 1 ≤ N := ⟨by omega, by omega⟩
def cntP (x : Sx) (m d : Int) : Prop := bkS x ≤ lim ∧ (0 ≤ m ∧ m ≤ 1099511627776) ∧ 0 ≤ d ∧ d ≤ 1099511627776
def cntPre (g : prodL L29) : Prop := cntP ⟨g.1, g.2.1, g.2.2.1⟩ g.2.2.2.1 g.2.2.2.2.1
theorem F29_is {Z : prodL L29 → Prop} {b : Bool} {a : ByteArray} {l : List Sx} {m d : Int} {K : Kn} (hs : l.length ≤ 4294967296) (hm : 0 ≤ m ∧ m ≤ 1099511627776) (hd : 0 ≤ d ∧ d ≤ 1099511627776)
    (hZ : ∀ x ∈ l, ∀ k : Int, 0 ≤ k → k ≤ m → 1 ≤ d → Z (x.isList, x.atom, x.list, k, d - 1, ())) (h : K (.int .i64 (cnt ⟨b, a, l⟩ m d)) []) : F29 Z (b, a, l, m, d, ()) K := by
  unfold F29
  simp only [cnt] at h
  dsimp only [Lf.ty, prodL] at h ⊢
  simp only [F29_J2, bif_dec]
  by_cases h1 : d < 1
  · rw [if_pos (.inl h1)] at h
    simp only [if_pos h1, cond_true]
    rw [wrap64 (by omega) (by omega)]; exact h
  simp only [if_neg h1]
  by_cases h2 : m < 1
  · rw [if_pos (.inr h2)] at h
    simp only [if_pos h2]
    rw [wrap64 (by omega) (by omega)]; exact h
  rw [if_neg (by omega)] at h
  simp only [if_neg h2, bif_not]
  cases b
  · exact h
  simp only [Bool.true_eq_false, if_false, cond_true] at h ⊢
  unfold F29_L4
  refine LoopW.fold l (fun n (c : Int) => (m, d, c, (n : Int), true, a, l, ())) (fun r _ c => K (.int .i64 (cnts r m (d - 1) c)) [] ∧ 1 ≤ c ∧ c ≤ m + 1) rfl ⟨h, by omega, by omega⟩ (fun c hp W => ?_) (fun n hn r c hr hp W hW => ?_)
  · unfold F29_B4
    rw [bif_dec, if_neg (by dsimp only; omega)]
    exact hp.1
  · unfold F29_B4
    obtain ⟨hp, hc1, hc2⟩ := hp
    rw [bif_dec, if_pos (by dsimp only; omega), bif_dec]
    simp only [cnts] at hp
    dsimp only
    by_cases h3 : c ≤ m
    · rw [if_pos h3] at hp ⊢
      have := cnt_le l[n] (m - c) (d - 1) (by omega)
      refine At_of hn ?_
      rw [wrap64 (n := m - c) (by omega) (by omega), wrap64 (n := d - 1) (by omega) (by omega), Sx.eta, wrap64 (by omega) (by omega), wrapS hn hs]
      exact ⟨hZ _ (List.getElem_mem hn) _ (by omega) (by omega) (by omega), hW _ ⟨hp, by omega, by omega⟩⟩
    · rw [if_neg h3] at hp ⊢
      exact hp
def sp29 : Sp := spz29 cntPre
theorem sp29_all : ∀ n, (spz29 fun g => cntPre g ∧ nodesS ⟨g.1, g.2.1, g.2.2.1⟩ < n).Ok Tryd.prog 29 true
  | 0 => ⟨fun _ _ _ h _ => absurd h.2 (Nat.not_lt_zero _), fun _ _ _ => rfl, fun _ => rfl, fun _ _ => ⟨rfl, rfl⟩⟩
  | n + 1 => ⟨by
      rintro ⟨b, a, l, m, d, ⟨⟩⟩ K X ⟨⟨q1, ⟨q2, q3⟩, q4, q5⟩, q6⟩ h
      refine F29_ok _ (sp29_all n) _ _ X (F29_is (small q1).1 ⟨q2, q3⟩ ⟨q4, q5⟩ (fun x hx k k1 k2 k3 => ?_) h)
      obtain ⟨s1, s2⟩ := (small q1).2.2.2 x hx
      dsimp only [Lf.ty] at *
      exact ⟨⟨s1, ⟨k1, (by omega : k ≤ 1099511627776)⟩, sub1 k3 q5⟩, (by omega : nodesS ⟨x.isList, x.atom, x.list⟩ < n)⟩, fun _ _ _ => rfl, fun _ => rfl, fun _ _ => ⟨rfl, rfl⟩⟩
theorem sp29_ok : sp29.Ok Tryd.prog 29 true :=
  ⟨fun g K X hp h => (sp29_all (nodesS ⟨g.1, g.2.1, g.2.2.1⟩ + 1)).calls g K X ⟨hp, Nat.lt_succ_self _⟩ h, fun _ _ _ => rfl, fun _ => rfl, fun _ _ => ⟨rfl, rfl⟩⟩

/-! ### csexp.measure.add -/
mutual
theorem madd_le : ∀ (x : Sx) (n : Int) (o : Bool) (d : Int), n ≤ (madd x n o d).1 ∧ (madd x n o d).1 ≤ n + nodesS x
  | ⟨b, a, l⟩, n, o, d => by
    simp only [madd, nodesS]
    split
    · simp only; omega
    · have := madds_le l (n + 1) (o || decide (20000 < n + 1 ∨ 12 < d)) (d + 1)
      omega
theorem madds_le : ∀ (l : List Sx) (n : Int) (o : Bool) (d : Int), n ≤ (madds l n o d).1 ∧ (madds l n o d).1 ≤ n + nodesL l
  | [], n, o, d => by simp [madds, nodesL]
  | x :: l, n, o, d => by
    simp only [madds, nodesL]
    split
    · simp only; omega
    · have h1 := madd_le x n o d
      have h2 := madds_le l (madd x n o d).1 (madd x n o d).2 d
      omega
end
mutual
theorem nodes_bk : ∀ (x : Sx), nodesS x ≤ bkS x
  | ⟨b, a, l⟩ => by have := nodesL_bk l; simp only [nodesS, bkS]; omega
theorem nodesL_bk : ∀ (l : List Sx), nodesL l ≤ bkSs l
  | [] => by simp [nodesL, bkSs]
  | x :: l => by have := nodes_bk x; have := nodesL_bk l; simp only [nodesL, bkSs]; omega
end
/-- Levels, too, are small: no expression is deeper than it has nodes. -/
def addP (x : Sx) (d n : Int) : Prop := bkS x ≤ lim ∧ (0 ≤ n ∧ n + nodesS x ≤ 1099511627776) ∧ 0 ≤ d ∧ d + nodesS x ≤ 1099511627776
def addPre (g : prodL L36) : Prop := addP ⟨g.1, g.2.1, g.2.2.1⟩ g.2.2.2.1 g.2.2.2.2.1
theorem F36_is {Z : prodL L36 → Prop} {b : Bool} {a : ByteArray} {l : List Sx} {d n : Int} {o : Bool} {K X : Kn} (hs : l.length ≤ 4294967296) (hn : 0 ≤ n ∧ n + 1 + nodesL l ≤ 1099511627776) (hd : 0 ≤ d ∧ d + 1 + nodesL l ≤ 1099511627776)
    (hZ : ∀ x ∈ l, ∀ k o', n ≤ k → k + nodesS x ≤ 1099511627776 → Z (x.isList, x.atom, x.list, d + 1, k, o', ())) (h : addF (b, a, l, d, n, o, ()) K X) : F36 Z (b, a, l, d, n, o, ()) K := by
  unfold addF at h
  simp only [madd] at h
  have hrest : ∀ o2, o2 = (o || decide (20000 < n + 1 ∨ 12 < d)) → F36_J7 K Z d (n + 1) o2 b a l := fun o2 ho => by
    rw [← ho] at h
    unfold F36_J7
    rw [bif_not]
    cases b
    · simp only [if_true] at h
      exact h
    simp only [Bool.true_eq_false, if_false, cond_true] at h ⊢
    unfold F36_L5
    refine LoopW.fold l (fun i (c : Int × Bool) => (d, l, (l.length : Int), (i : Int), c.1, c.2, ())) (fun r _ c => K (.tu []) [some (.cells [.int .i64 (madds r c.1 c.2 (d + 1)).1, .bool (madds r c.1 c.2 (d + 1)).2])] ∧ n ≤ c.1 ∧ c.1 + nodesL r ≤ 1099511627776) (a0 := (n + 1, o2)) rfl ⟨h, by dsimp only; omega, by dsimp only; omega⟩ (fun c hp W => ?_) (fun i hi r c hr hp W hW => ?_)
    · unfold F36_B5
      rw [bif_dec, if_neg (by dsimp only; omega)]
      exact hp.1
    · unfold F36_B5
      obtain ⟨hp, hc1, hc2⟩ := hp
      rw [bif_dec, if_pos (by dsimp only; omega)]
      refine At_of hi ?_
      simp only [madds] at hp
      simp only [nodesL] at hc2
      dsimp only
      cases ho2 : c.2
      · rw [ho2] at hp
        simp only [Bool.false_eq_true, if_false, cond_false] at hp ⊢
        rw [wrap64 (n := d + 1) (by omega) (by omega), Sx.eta, wrapS hi hs]
        have := madd_le l[i] c.1 false (d + 1)
        exact ⟨hZ _ (List.getElem_mem hi) _ _ hc1 (by omega), hW (_, _) ⟨hp, by dsimp only; omega, by dsimp only; omega⟩⟩
      · rw [ho2] at hp
        simp only [if_true, cond_true] at hp ⊢
        exact hp
  unfold F36
  dsimp only [Lf.ty, prodL]
  rw [wrap64 (n := n + 1) (by omega) (by omega)]
  simp only [bif_dec, F36_J2, cond_true]
  by_cases h1 : 20000 < n + 1
  · rw [if_pos h1]
    exact hrest true (by rw [decide_eq_true (.inl h1), Bool.or_true])
  · rw [if_neg h1]
    by_cases h2 : 12 < d
    · rw [if_pos h2]; exact hrest true (by rw [decide_eq_true (.inr h2), Bool.or_true])
    · rw [if_neg h2]; exact hrest o (by rw [decide_eq_false (by omega), Bool.or_false])
def rw36 : Raw := rwz36 addPre
theorem rw36_all : ∀ n, (rwz36 fun g => addPre g ∧ nodesS ⟨g.1, g.2.1, g.2.2.1⟩ < n).Ok Tryd.prog 36
  | 0 => fun _ _ _ h => absurd h.1.2 (Nat.not_lt_zero _)
  | n + 1 => by
    rintro ⟨b, a, l, d, m, o, ⟨⟩⟩ K X ⟨⟨⟨p1, ⟨p2, p3⟩, p4, p5⟩, p6⟩, h⟩
    obtain ⟨s1, _, _, s4⟩ := small p1
    simp only [nodesS] at p3 p5
    refine F36_ok _ (rw36_all n) _ K X (F36_is (X := X) s1 (by dsimp only [Lf.ty] at *; omega) (by dsimp only [Lf.ty] at *; omega) (fun x hx k o' k1 k2 => ?_) h)
    obtain ⟨q1, q2⟩ := s4 x hx
    have := mem_nodes hx
    have e : nodesS ⟨x.isList, x.atom, x.list⟩ = nodesS x := by rw [Sx.eta]
    dsimp only [Lf.ty] at *
    refine ⟨⟨q1, ⟨?_, ?_⟩, ?_, ?_⟩, ?_⟩ <;> (try dsimp only) <;> (try rw [e]) <;> omega
theorem rw36_ok : rw36.Ok Tryd.prog 36 := fun g K X h => rw36_all (nodesS ⟨g.1, g.2.1, g.2.2.1⟩ + 1) g K X ⟨⟨h.1, Nat.lt_succ_self _⟩, h.2⟩
end Go.Proofs.YtpbkhdeehlikfaaDoor
