/-
  Csexp: the functions that call themselves yield what is said of them.
-/
import Derived.Test.YtpbkhdeehlikfaaDoorFA
namespace Go.Proofs.YtpbkhdeehlikfaaDoor
set_option linter.unusedVariables false
set_option linter.unusedSimpArgs false
set_option linter.unusedSectionVars false
open Go.RowKit

theorem wrap64 {n : Int} (h1 : -9223372036854775808 ≤ n) (h2 : n < 9223372036854775808) : IntKind.i64.wrap n = n := by
  simp [IntKind.wrap, IntKind.bits, IntKind.signed]; omega
theorem At_of {α : Type} {l : List α} {n : Nat} {K : α → Prop} (h : n < l.length) (hK : K l[n]) : At l (n : Int) K :=
  ⟨by omega, l[n], by simp [h], hK⟩
theorem wrapS {n N : Nat} (h : n < N) (hN : N ≤ 4294967296) : IntKind.i64.wrap ((n : Int) + 1) = ((n + 1 : Nat) : Int) := by
  rw [wrap64 (by omega) (by omega)]; rfl
/-- A loop over a list. -/
theorem LoopW.fold {α σ γ : Type} {body : (γ → Prop) → γ → Prop} {g : γ} (l : List α) (S : Nat → σ → γ) (P : List α → Nat → σ → Prop) {a0 : σ} (hg : g = S 0 a0) (h0 : P l 0 a0)
    (hn : ∀ a, P [] l.length a → ∀ W, body W (S l.length a)) (hc : ∀ n (h : n < l.length) r a, r = l.drop (n + 1) → P (l[n] :: r) n a → ∀ W : γ → Prop, (∀ a', P r (n + 1) a' → W (S (n + 1) a')) → body W (S n a)) : LoopW body g := by
  rw [hg]
  have key : ∀ k n a, n + k = l.length → P (l.drop n) n a → loopN body (k + 1) (S n a) := by
    intro k
    induction k with
    | zero =>
      intro n a hk hp
      have : n = l.length := by omega
      subst this
      rw [List.drop_length] at hp
      exact hn a hp _
    | succ k ih =>
      intro n a hk hp
      have hlt : n < l.length := by omega
      rw [List.drop_eq_getElem_cons hlt] at hp
      exact hc n hlt _ a rfl hp _ fun a' hp' => ih (n + 1) a' (by omega) hp'
  exact ⟨l.length + 1, key l.length 0 a0 (by omega) h0⟩
theorem mem_bk : ∀ {l : List Sx} {x : Sx}, x ∈ l → bkS x ≤ bkSs l
  | y :: l, x, h => by
    simp only [bkSs]
    rcases List.mem_cons.1 h with rfl | h
    · omega
    · have := mem_bk h; omega
theorem mem_nodes : ∀ {l : List Sx} {x : Sx}, x ∈ l → nodesS x ≤ nodesL l
  | y :: l, x, h => by
    simp only [nodesL]
    rcases List.mem_cons.1 h with rfl | h
    · omega
    · have := mem_nodes h; omega
theorem bk_pos (x : Sx) : 3 ≤ bkS x := by cases x; simp only [bkS]; omega
theorem len_bk : ∀ (l : List Sx), 3 * l.length ≤ bkSs l
  | [] => by simp [bkSs]
  | x :: l => by
    have := len_bk l
    have := bk_pos x
    simp only [bkSs, List.length_cons]; omega
theorem lim_eq : lim = 1073741824 := rfl
/-- The elements of a list that is small are small. -/
theorem small {b : Bool} {a : ByteArray} {l : List Sx} (h : bkS ⟨b, a, l⟩ ≤ lim) : l.length ≤ 4294967296 ∧ a.size ≤ lim ∧ bkSs l ≤ lim ∧ ∀ x ∈ l, bkS ⟨x.isList, x.atom, x.list⟩ ≤ lim ∧ nodesS ⟨x.isList, x.atom, x.list⟩ < nodesS ⟨b, a, l⟩ := by
  simp only [bkS] at h
  have := len_bk l
  rw [lim_eq] at *
  refine ⟨by omega, by omega, by omega, fun x hx => ?_⟩
  rw [Sx.eta]
  have := mem_bk hx
  have := mem_nodes hx
  simp only [nodesS]
  exact ⟨by omega, by omega⟩
theorem bif_not {b : Bool} {p q : Prop} : (bif !b then p else q) = bif b then q else p := by cases b <;> rfl
theorem bif_dec {c : Prop} [Decidable c] {p q : Prop} : (bif decide c then p else q) = if c then p else q := by by_cases h : c <;> simp [h]

/-! ### quiltref01.check -/
theorem F41_is {Z : prodL L41 → Prop} {b : Bool} {a : ByteArray} {l : List Sx} {K : Kn} (hs : l.length ≤ 4294967296) (hZ : ∀ x ∈ l, Z (x.isList, x.atom, x.list, ())) (h : K (.int .i64 (ckR ⟨b, a, l⟩)) []) : F41 Z (b, a, l, ()) K := by
  unfold F41
  simp only [ckR] at h
  dsimp only [Lf.ty, prodL] at h ⊢
  simp only [bif_not, bif_dec]
  cases b
  · simp only [if_true, cond_false] at h ⊢
    by_cases h1 : 0 < l.length
    · rw [if_pos h1] at h; rw [if_pos (by omega)]; exact h
    · rw [if_neg h1] at h; rw [if_neg (by omega)]
      by_cases h2 : 65536 < a.size
      · rw [if_pos h2] at h; rw [if_pos (by omega)]; exact h
      · rw [if_neg h2] at h; rw [if_neg (by omega)]; exact h
  · simp only [Bool.true_eq_false, if_false, cond_true] at h ⊢
    by_cases h1 : a = ⟨#[]⟩
    · rw [if_neg (by simpa using h1)] at h; rw [if_pos h1]
      unfold F41_L2
      refine LoopW.fold l (fun n (_ : Unit) => ((n : Int), true, a, l, ())) (fun r _ _ => K (.int .i64 (ckRs r)) []) (a0 := ()) rfl h (fun _ hp W => ?_) (fun n hn r _ hr hp W hW => ?_)
      · unfold F41_B2
        rw [bif_dec, if_neg (by dsimp only; omega)]
        exact hp
      · unfold F41_B2
        rw [bif_dec, if_pos (by dsimp only; omega)]
        refine At_of hn ⟨hZ _ (List.getElem_mem hn), ?_⟩
        rw [Sx.eta, bif_not, bif_dec]
        simp only [ckRs] at hp
        by_cases h2 : ckR l[n] = 0
        · rw [if_pos h2] at hp ⊢; rw [wrapS hn hs]; exact hW () hp
        · rw [if_neg h2] at hp ⊢; exact hp
    · rw [if_pos (by simpa using h1)] at h; rw [if_neg h1]; exact h
def sp41 : Sp := spz41 fun g => bkS ⟨g.1, g.2.1, g.2.2.1⟩ ≤ lim
theorem sp41_all : ∀ n, (spz41 fun g => bkS ⟨g.1, g.2.1, g.2.2.1⟩ ≤ lim ∧ nodesS ⟨g.1, g.2.1, g.2.2.1⟩ < n).Ok Tryd.prog 41 true
  | 0 => ⟨fun _ _ _ h _ => absurd h.2 (Nat.not_lt_zero _), fun _ _ _ => rfl, fun _ => rfl, fun _ _ => ⟨rfl, rfl⟩⟩
  | n + 1 => ⟨fun g _ X hp h => F41_ok _ (sp41_all n) _ _ X (F41_is (small hp.1).1 (fun x hx => ⟨((small hp.1).2.2.2 x hx).1, by have := ((small hp.1).2.2.2 x hx).2; have := hp.2; dsimp only at *; omega⟩) h), fun _ _ _ => rfl, fun _ => rfl, fun _ _ => ⟨rfl, rfl⟩⟩
theorem sp41_ok : sp41.Ok Tryd.prog 41 true :=
  ⟨fun g K X hp h => (sp41_all (nodesS ⟨g.1, g.2.1, g.2.2.1⟩ + 1)).calls g K X ⟨hp, Nat.lt_succ_self _⟩ h, fun _ _ _ => rfl, fun _ => rfl, fun _ _ => ⟨rfl, rfl⟩⟩

/-! ### csexp.shape -/
theorem F37_is {Z : prodL L37 → Prop} {b : Bool} {a : ByteArray} {l : List Sx} {K : Kn} (hs : l.length ≤ 4294967296) (hZ : ∀ x ∈ l, Z (x.isList, x.atom, x.list, ())) (h : K (.int .i64 (shS ⟨b, a, l⟩)) []) : F37 Z (b, a, l, ()) K := by
  have hloop : (65536 < a.size → K (.int .i64 4) []) → (¬ 65536 < a.size → K (.int .i64 (shSs l)) []) → bif decide (65536 < (a.size : Int)) then K (.int .i64 4) [] else F37_L4 K Z (l, (l.length : Int), 0, ()) := fun h1 h2 => by
    rw [bif_dec]
    split
    · exact h1 (by omega)
    · unfold F37_L4
      refine LoopW.fold l (fun n (_ : Unit) => (l, (l.length : Int), (n : Int), ())) (fun r _ _ => K (.int .i64 (shSs r)) []) (a0 := ()) rfl (h2 (by omega)) (fun _ hp W => ?_) (fun n hn r _ hr hp W hW => ?_)
      · unfold F37_B4
        rw [bif_dec, if_neg (by dsimp only; omega)]
        exact hp
      · unfold F37_B4
        rw [bif_dec, if_pos (by dsimp only; omega)]
        refine At_of hn ⟨hZ _ (List.getElem_mem hn), ?_⟩
        rw [Sx.eta, bif_not, bif_dec]
        simp only [shSs] at hp
        by_cases h2 : shS l[n] = 0
        · rw [if_pos h2] at hp ⊢; rw [wrapS hn hs]; exact hW () hp
        · rw [if_neg h2] at hp ⊢; exact hp
  unfold F37
  simp only [shS] at h
  dsimp only [Lf.ty, prodL] at h ⊢
  cases b
  · simp only [Bool.false_eq_true, false_and, true_and, false_or, cond_false, Bool.not_false, cond_true, F37_J2, bif_dec] at h ⊢
    by_cases h1 : 0 < l.length
    · rw [if_pos h1] at h; rw [if_pos (by omega)]; exact h
    · rw [if_neg h1] at h; rw [if_neg (by omega)]
      have := hloop (fun h2 => by rw [if_pos h2] at h; exact h) (fun h2 => by rw [if_neg h2] at h; exact h)
      rwa [bif_dec] at this
  · simp only [true_and, Bool.true_eq_false, false_and, or_false, cond_false, Bool.not_true, cond_true, F37_J2, bif_not, bif_dec] at h ⊢
    by_cases h1 : a = ⟨#[]⟩
    · rw [if_neg (by simpa using h1)] at h; rw [if_pos h1]
      have := hloop (fun h2 => by rw [if_pos h2] at h; exact h) (fun h2 => by rw [if_neg h2] at h; exact h)
      rwa [bif_dec] at this
    · rw [if_pos (by simpa using h1)] at h; rw [if_neg h1]; exact h
def sp37 : Sp := spz37 fun g => bkS ⟨g.1, g.2.1, g.2.2.1⟩ ≤ lim
theorem sp37_all : ∀ n, (spz37 fun g => bkS ⟨g.1, g.2.1, g.2.2.1⟩ ≤ lim ∧ nodesS ⟨g.1, g.2.1, g.2.2.1⟩ < n).Ok Tryd.prog 37 true
  | 0 => ⟨fun _ _ _ h _ => absurd h.2 (Nat.not_lt_zero _), fun _ _ _ => rfl, fun _ => rfl, fun _ _ => ⟨rfl, rfl⟩⟩
  | n + 1 => ⟨fun g _ X hp h => F37_ok _ (sp37_all n) _ _ X (F37_is (small hp.1).1 (fun x hx => ⟨((small hp.1).2.2.2 x hx).1, by have := ((small hp.1).2.2.2 x hx).2; have := hp.2; dsimp only at *; omega⟩) h), fun _ _ _ => rfl, fun _ => rfl, fun _ _ => ⟨rfl, rfl⟩⟩
theorem sp37_ok : sp37.Ok Tryd.prog 37 true :=
  ⟨fun g K X hp h => (sp37_all (nodesS ⟨g.1, g.2.1, g.2.2.1⟩ + 1)).calls g K X ⟨hp, Nat.lt_succ_self _⟩ h, fun _ _ _ => rfl, fun _ => rfl, fun _ _ => ⟨rfl, rfl⟩⟩

/-! ### quiltref01.long -/
theorem F30_is {Z : prodL L30 → Prop} {b : Bool} {a : ByteArray} {l : List Sx} {K : Kn} (hs : l.length ≤ 4294967296) (hZ : ∀ x ∈ l, Z (x.isList, x.atom, x.list, ())) (h : K (.bool (lgR ⟨b, a, l⟩)) []) : F30 Z (b, a, l, ()) K := by
  have hend : K (.bool (decide (200 < a.size) || decide (60 < l.length))) [] → F30_J5 K b a l := fun h => by
    unfold F30_J5
    rw [bif_dec]
    split
    · rename_i h1; rw [decide_eq_true (show 200 < a.size by omega), Bool.true_or] at h; exact h
    · rename_i h1
      rw [decide_eq_false (show ¬ 200 < a.size by omega), Bool.false_or] at h
      rw [show decide (60 < (l.length : Int)) = decide (60 < l.length) from decide_eq_decide.2 (by omega)]
      exact h
  unfold F30 F30_L2
  simp only [lgR] at h
  dsimp only [Lf.ty, prodL] at h ⊢
  refine LoopW.fold l (fun n (_ : Unit) => ((n : Int), b, a, l, ())) (fun r _ _ => K (.bool ((b && lgRs r) || decide (200 < a.size) || decide (60 < l.length))) []) (a0 := ()) rfl h (fun _ hp W => ?_) (fun n hn r _ hr hp W hW => ?_)
  · unfold F30_B2
    rw [bif_dec, if_neg (by dsimp only; omega)]
    simp only [lgRs, Bool.and_false, Bool.false_or] at hp
    exact hend hp
  · unfold F30_B2
    rw [bif_dec, if_pos (by dsimp only; omega)]
    cases b
    · simp only [Bool.false_and, Bool.false_or] at hp
      exact hend hp
    · simp only [cond_true]
      refine At_of hn ⟨hZ _ (List.getElem_mem hn), ?_⟩
      rw [Sx.eta]
      simp only [lgRs, Bool.true_and] at hp hW
      cases hx : lgR l[n]
      · rw [hx, Bool.false_or] at hp; simp only [cond_false]; rw [wrapS hn hs]; exact hW () hp
      · rw [hx, Bool.true_or, Bool.true_or, Bool.true_or] at hp; exact hp
def sp30 : Sp := spz30 fun g => bkS ⟨g.1, g.2.1, g.2.2.1⟩ ≤ lim
theorem sp30_all : ∀ n, (spz30 fun g => bkS ⟨g.1, g.2.1, g.2.2.1⟩ ≤ lim ∧ nodesS ⟨g.1, g.2.1, g.2.2.1⟩ < n).Ok Tryd.prog 30 true
  | 0 => ⟨fun _ _ _ h _ => absurd h.2 (Nat.not_lt_zero _), fun _ _ _ => rfl, fun _ => rfl, fun _ _ => ⟨rfl, rfl⟩⟩
  | n + 1 => ⟨fun g _ X hp h => F30_ok _ (sp30_all n) _ _ X (F30_is (small hp.1).1 (fun x hx => ⟨((small hp.1).2.2.2 x hx).1, by have := ((small hp.1).2.2.2 x hx).2; have := hp.2; dsimp only at *; omega⟩) h), fun _ _ _ => rfl, fun _ => rfl, fun _ _ => ⟨rfl, rfl⟩⟩
theorem sp30_ok : sp30.Ok Tryd.prog 30 true :=
  ⟨fun g K X hp h => (sp30_all (nodesS ⟨g.1, g.2.1, g.2.2.1⟩ + 1)).calls g K X ⟨hp, Nat.lt_succ_self _⟩ h, fun _ _ _ => rfl, fun _ => rfl, fun _ _ => ⟨rfl, rfl⟩⟩

/-! ### quiltref01.Same -/
theorem F16_is {Z : prodL L16 → Prop} {b : Bool} {a : ByteArray} {l : List Sx} {b' : Bool} {a' : ByteArray} {l' : List Sx} {K : Kn} (hs : l.length ≤ 4294967296) (hZ : ∀ x ∈ l, ∀ y : Sx, Z (x.isList, x.atom, x.list, y.isList, y.atom, y.list, ())) (h : K (.bool (smR ⟨b, a, l⟩ ⟨b', a', l'⟩)) []) : F16 Z (b, a, l, b', a', l', ()) K := by
  unfold F16
  simp only [smR] at h
  dsimp only [Lf.ty, prodL] at h ⊢
  simp only [bif_not, bif_dec]
  by_cases h1 : b = b'
  case neg => rw [if_neg h1]; rw [decide_eq_false h1, Bool.false_and, Bool.false_and, Bool.false_and] at h; exact h
  rw [if_pos h1]
  rw [decide_eq_true h1, Bool.true_and] at h
  by_cases h2 : a = a'
  case neg => rw [if_neg h2]; rw [decide_eq_false h2, Bool.false_and, Bool.false_and] at h; exact h
  rw [if_pos h2]
  rw [decide_eq_true h2, Bool.true_and] at h
  unfold F16_J2
  by_cases h3 : l.length = l'.length
  case neg => rw [decide_eq_false (show ¬ (l.length : Int) = (l'.length : Int) by omega)]; rw [decide_eq_false h3, Bool.false_and] at h; exact h
  rw [decide_eq_true (show (l.length : Int) = (l'.length : Int) by omega)]
  rw [decide_eq_true h3, Bool.true_and] at h
  simp only [Bool.not_true, cond_false]
  unfold F16_L4
  refine LoopW.fold l (fun n (_ : Unit) => ((n : Int), b, a, l, b', a', l', ())) (fun r n _ => K (.bool (smRs r (l'.drop n))) []) (a0 := ()) rfl h (fun _ hp W => ?_) (fun n hn r _ hr hp W hW => ?_)
  · unfold F16_B4
    rw [bif_dec, if_neg (by dsimp only; omega)]
    exact hp
  · unfold F16_B4
    rw [bif_dec, if_pos (by dsimp only; omega)]
    have hn' : n < l'.length := by omega
    refine At_of hn (At_of hn' ⟨hZ _ (List.getElem_mem hn) _, ?_⟩)
    rw [Sx.eta, Sx.eta, bif_not]
    rw [List.drop_eq_getElem_cons hn'] at hp
    simp only [smRs] at hp
    cases hx : smR l[n] l'[n]
    · rw [hx, Bool.false_and] at hp; exact hp
    · rw [hx, Bool.true_and] at hp; simp only [cond_true]; rw [wrapS hn hs]; exact hW () hp
def sp16 : Sp := spz16 fun g => bkS ⟨g.1, g.2.1, g.2.2.1⟩ ≤ lim
theorem sp16_all : ∀ n, (spz16 fun g => bkS ⟨g.1, g.2.1, g.2.2.1⟩ ≤ lim ∧ nodesS ⟨g.1, g.2.1, g.2.2.1⟩ < n).Ok Tryd.prog 16 true
  | 0 => ⟨fun _ _ _ h _ => absurd h.2 (Nat.not_lt_zero _), fun _ _ _ => rfl, fun _ => rfl, fun _ _ => ⟨rfl, rfl⟩⟩
  | n + 1 => ⟨fun g _ X hp h => F16_ok _ (sp16_all n) _ _ X (F16_is (small hp.1).1 (fun x hx _ => ⟨((small hp.1).2.2.2 x hx).1, by have := ((small hp.1).2.2.2 x hx).2; have := hp.2; dsimp only at *; omega⟩) h), fun _ _ _ => rfl, fun _ => rfl, fun _ _ => ⟨rfl, rfl⟩⟩
theorem sp16_ok : sp16.Ok Tryd.prog 16 true :=
  ⟨fun g K X hp h => (sp16_all (nodesS ⟨g.1, g.2.1, g.2.2.1⟩ + 1)).calls g K X ⟨hp, Nat.lt_succ_self _⟩ h, fun _ _ _ => rfl, fun _ => rfl, fun _ _ => ⟨rfl, rfl⟩⟩
end Go.Proofs.YtpbkhdeehlikfaaDoor
