/-
  The machine over typed values, 19: regions that draw their order, whole. No program in sight.
-/
import Derived.Test.YthjikjhddddplaaMD3
namespace Go.Proofs.Ythjikjhddddplaa
set_option linter.unusedVariables false
set_option linter.unusedSimpArgs false
open Go.RowKit

/-! ### What an operation needs -/
mutual
def refs : T → Nat
  | .oa _ k _ => 1 <<< k
  | .os _ k _ _ _ => 1 <<< k
  | .pt k _ => 1 <<< k
  | .pe _ k _ _ _ => 1 <<< k
  | .ag cs => refsL cs
  | .tu cs => refsL cs
  | .fn _ xs ys => refsL xs ||| refsL ys
  | .ic _ v => refs v
  | _ => 0
def refsL : List T → Nat
  | [] => 0
  | v :: r => refs v ||| refsL r
end
def refsO : Option Ob → Nat
  | some (.cells cs) => refsL cs
  | _ => 0
def reachB : Nat → St → Nat → Nat
  | _, [], m => m
  | k, o :: r, m => match m.testBit k with
    | true => reachB (k + 1) r (m ||| refsO o)
    | false => reachB (k + 1) r m
def needs (ρ : Operand → T) : List Operand → Nat
  | [] => 0
  | x :: r => refs (ρ x) ||| needs ρ r
def need (op : Op) (ρ : Operand → T) (s : St) : Nat :=
  match op with
  | .call _ => reachB 0 s (reachB 0 s (needs ρ op.operands.toList))
  | _ => needs ρ op.operands.toList
/-- May an operation make an object? -/
def newOp : Op → Bool
  | .alloc _ => true
  | .box .. => true
  | .call { callee := .builtin b, args := _, argTypes := _ } => isApp b
  | .call _ => true
  | _ => false
def rowOf (mu : FuncId → Bool) (op : Op) (ρ : Operand → T) (s : St) (p : Nat) : Row :=
  ⟨need op ρ s, wrOp mu op ρ, match newOp op with | true => some p | false => none⟩
def placeK (row : Row) (s : St) (v : T) (s' : St) (K : Kn) : Prop :=
  match decide (s'.length = s.length) with
  | true => K v (back row.vis 0 s s')
  | false => match row.own, rd s' s.length with
    | some p, some o => K (fixV s.length p v) (s.set p (some (fixOb s.length p o)))
    | _, _ => False

/-! ### Which operations come before which -/
def orr (W : List Nat) : List Edge → Nat
  | [] => 0
  | e :: r => match Region.binds .any e with
    | true => (W.getD e.on 0 ||| 1 <<< e.on) ||| orr W r
    | false => orr W r
def befs : List Oper → List Nat → List Nat
  | [], W => W
  | o :: r, W => befs r (W ++ [orr W o.after.toList])
/-- The places of the new objects rise. -/
def incr (top : Nat) : Nat → List Row → Bool
  | _, [] => true
  | b, r :: l => match r.own with
    | some p => Nat.ble b p && (Nat.blt p top && incr top (p + 1) l)
    | none => incr top b l
def orderOk (ops : Array Oper) (tab : List Row) (W : List Nat) : Bool :=
  (List.range ops.size).all fun i => match ops[i]?, tab[i]?, W[i]? with
    | some y, some q, some b => y.after.all (fun e => !Region.binds .any e || Nat.blt e.on i) && (orr W y.after.toList == b) && (List.range i).all fun j => b.testBit j || (match ops[j]?, tab[j]? with
      | some x, some p => indep ops x y p q
      | _, _ => false)
    | _, _, _ => false
/-- Are any two operations of a region ordered, or do they not see each other? -/
def drawOk (ops : Array Oper) (base top : Nat) (tab : List Row) : Bool :=
  (tab.length == ops.size) && incr top base tab && orderOk ops tab (befs ops.toList [])
def ShutUnder (ops : Array Oper) (listed : Array Bool) : Prop :=
  ∀ (j : Nat) (o : Oper), ops[j]? = some o → listed.getD j false = true → ∀ e ∈ o.after, Region.binds .any e = true → listed.getD e.on false = true
theorem ShutUnder.set {ops : Array Oper} {listed : Array Bool} (hc : ShutUnder ops listed) {j : Nat} (hj : j ∈ Region.ready .any ops listed) : ShutUnder ops (listed.setIfInBounds j true) := by
  intro k o ho hk e he hb
  obtain ⟨_, oj, hoj, hall⟩ := mem_ready.1 hj
  by_cases hjk : j = k
  · subst hjk
    rw [hoj] at ho
    injection ho with ho
    subst ho
    exact getD_set_true (hall e he hb)
  · have hk' : listed.getD k false = true := by
      simpa [Array.getElem?_setIfInBounds, hjk] using hk
    exact getD_set_true (hc k o ho hk' e he hb)
theorem orr_bit {W : List Nat} {j : Nat} : ∀ {l : List Edge}, (orr W l).testBit j = true → ∃ e ∈ l, Region.binds .any e = true ∧ (e.on = j ∨ (W.getD e.on 0).testBit j = true)
  | [], h => by simp [orr] at h
  | e :: r, h => by
    simp only [orr] at h
    split at h
    · rename_i hb
      rw [Nat.testBit_or, Nat.testBit_or] at h
      simp only [Bool.or_eq_true] at h
      rcases h with (h | h) | h
      · exact ⟨e, by simp, hb, .inr h⟩
      · refine ⟨e, by simp, hb, .inl ?_⟩
        rw [Nat.one_shiftLeft, Nat.testBit_two_pow] at h
        exact of_decide_eq_true h
      · obtain ⟨e', h1, h2⟩ := orr_bit h
        exact ⟨e', by simp [h1], h2⟩
    · obtain ⟨e', h1, h2⟩ := orr_bit h
      exact ⟨e', by simp [h1], h2⟩
theorem before_listed {ops : Array Oper} {listed : Array Bool} {W : List Nat} (hc : ShutUnder ops listed) (hW : ∀ (i : Nat) (y : Oper), ops[i]? = some y → (∀ e ∈ y.after, Region.binds .any e = true → e.on < i) ∧ W[i]? = some (orr W y.after.toList)) : ∀ (i : Nat) (y : Oper) (j : Nat), ops[i]? = some y → (∀ e ∈ y.after, Region.binds .any e = true → listed.getD e.on false = true) →
    (orr W y.after.toList).testBit j = true → listed.getD j false = true := by
  intro i
  induction i using Nat.strongRecOn with
  | ind i ih =>
    intro y j hy hall h
    obtain ⟨e, he, hb, h⟩ := orr_bit h
    have he' : e ∈ y.after := by simpa using he
    have hl := hall e he' hb
    rcases h with rfl | h
    · exact hl
    · have hlt := (hW i y hy).1 e he' hb
      have hoe : ops[e.on]? = some (ops[e.on]'(by have := (Array.getElem?_eq_some_iff.1 hy).1; omega)) := Array.getElem?_eq_getElem _
      have hw := (hW _ _ hoe).2
      rw [List.getD_eq_getElem?_getD, hw, Option.getD_some] at h
      exact ih e.on hlt _ j hoe (hc _ _ hoe hl) h
theorem incr_lt {top : Nat} : ∀ {tab : List Row} {b : Nat}, incr top b tab = true → (∀ (i : Nat) (r : Row) (p : Nat), tab[i]? = some r → r.own = some p → b ≤ p ∧ p < top) ∧ ∀ (i j : Nat) (r q : Row) (p : Nat), tab[i]? = some r → tab[j]? = some q → r.own = some p → q.own = some p → i = j
  | [], _, _ => ⟨fun i r p h => by simp at h, fun i j r q p h => by simp at h⟩
  | a :: l, b, h => by
    simp only [incr] at h
    cases ho : a.own with
    | none =>
      rw [ho] at h
      obtain ⟨h1, h2⟩ := incr_lt h
      refine ⟨fun i r p hi hr => ?_, fun i j r q p hi hj hr hq => ?_⟩
      · cases i with
        | zero => simp at hi; subst hi; rw [ho] at hr; cases hr
        | succ i => exact h1 i r p (by simpa using hi) hr
      · cases i with
        | zero => simp at hi; subst hi; rw [ho] at hr; cases hr
        | succ i => cases j with
          | zero => simp at hj; subst hj; rw [ho] at hq; cases hq
          | succ j => rw [h2 i j r q p (by simpa using hi) (by simpa using hj) hr hq]
    | some k =>
      rw [ho] at h
      simp only [Bool.and_eq_true] at h
      obtain ⟨h3, h4, h⟩ := h
      have h3 : b ≤ k := Nat.le_of_ble_eq_true h3
      have h4 : k < top := Nat.le_of_ble_eq_true h4
      obtain ⟨h1, h2⟩ := incr_lt h
      refine ⟨fun i r p hi hr => ?_, fun i j r q p hi hj hr hq => ?_⟩
      · cases i with
        | zero => simp at hi; subst hi; rw [ho] at hr; injection hr with hr; omega
        | succ i => have := h1 i r p (by simpa using hi) hr; omega
      · cases i with
        | zero => cases j with
          | zero => rfl
          | succ j =>
            simp at hi; subst hi; rw [ho] at hr; injection hr with hr
            have := (h1 j q p (by simpa using hj) hq).1
            omega
        | succ i => cases j with
          | zero =>
            simp at hj; subst hj; rw [ho] at hq; injection hq with hq
            have := (h1 i r p (by simpa using hi) hr).1
            omega
          | succ j => rw [h2 i j r q p (by simpa using hi) (by simpa using hj) hr hq]

/-! ### A region -/
def dopsD (D : TD) (Γ : Gam) (mu : FuncId → Bool) (n : Nat) (ops : Array Oper) (base top : Nat) : List Oper → Nat → List Row → Tm → St → (Tm → St → Prop) → Prop
  | [], _, acc, t, s, K => match drawOk ops base top acc.reverse with
    | true => K t s
    | false => False
  | o :: r, c, acc, t, s, K => dguard (gdOf ops o.guard) t
    (fun t => dop D Γ o.op (ev t) (maskL (need o.op (ev t) s) 0 s) (fun v s' => placeK (rowOf mu o.op (ev t) s c) s v s' fun v s1 => Fin n t o.dst v (fun t2 s2 => dopsD D Γ mu n ops base top r (match newOp o.op with | true => c + 1 | false => c) (rowOf mu o.op (ev t) s c :: acc) t2 s2 K) s1) noX)
    fun t => Fin n t o.dst (.cst Go.undef) (fun t s => dopsD D Γ mu n ops base top r (match newOp o.op with | true => c + 1 | false => c) (⟨0, false, none⟩ :: acc) t s K) s

section
variable {P : Program} {D : TD} {Γ : Gam} {mu : FuncId → Bool} {g g' : G} {s st st' : St} {w w' : World} {n base top : Nat} {b0 : B0} {t : Tm} {a : Act} {ops : Array Oper} {tab : List Row}

theorem put_same {d : Nat} {v : T} (h : get t d = v) : get (put t d v) = get t := by
  funext i
  rw [get_put]
  by_cases e : i = d
  · subst e; rw [if_pos rfl, h]
  · rw [if_neg e]
theorem dguard_cases {o : Oper} {A B : Tm → Prop} (h : dguard (gdOf ops o.guard) t A B) : ∃ t1, get t1 = get t ∧ ((gdF ops o.guard (get t) = some true ∧ A t1) ∨ (gdF ops o.guard (get t) = some false ∧ B t1)) := by
  unfold gdF
  unfold dguard at h
  split at h
  · rename_i hg
    exact ⟨t, rfl, .inl ⟨by rw [hg], h⟩⟩
  · rename_i d want hg
    rw [hg]
    simp only
    split at h
    · rename_i b hb
      rw [hb]
      cases want <;> cases b <;> simp only [cond_true, cond_false] at h
      · exact ⟨_, put_same hb, .inl ⟨rfl, h⟩⟩
      · exact ⟨_, put_same hb, .inr ⟨rfl, h⟩⟩
      · exact ⟨_, put_same hb, .inr ⟨rfl, h⟩⟩
      · exact ⟨_, put_same hb, .inl ⟨rfl, h⟩⟩
    · rename_i vs hb
      rw [hb]
      exact ⟨t, rfl, .inr ⟨rfl, h⟩⟩
    · exact h.elim
  · exact h.elim
theorem fin_setF {dst : Option Tmp} {v : T} {K : Tm → St → Prop} (h : Fin n t dst v K s) : ∃ t', K t' s ∧ get t' = setF (get t) dst v ∧ ∀ d, dst = some d → d < n := by
  unfold Fin at h
  cases dst with
  | none => exact ⟨t, h, rfl, by simp⟩
  | some d =>
    simp only at h
    split at h
    · rename_i hd
      exact ⟨_, h, by funext i; rw [get_put]; rfl, by rintro _ ⟨⟩; exact of_decide_eq_true hd⟩
    · exact h.elim
theorem eff_of_dop (hΓ : GamDet mu Γ) {op : Op} {row : Row} {K : Kn} (hw : row.wr = wrOp mu op (ev t)) (h : dop D Γ op (ev t) (maskL row.vis 0 s) (fun v s' => placeK row s v s' K) noX) : ∃ v s1, Eff D Γ row op (get t) s v s1 ∧ K v s1 := by
  obtain ⟨v', s', h1, h2, h3⟩ := det_op hΓ h
  rw [ev_evF] at h2
  rcases h3 with rfl | ⟨o, rfl⟩ | ⟨h3, h4⟩
  · unfold placeK at h1
    rw [maskL_length, decide_eq_true rfl, back_mask] at h1
    exact ⟨v', s, ⟨v', _, h2, .inl ⟨rfl, rfl, rfl⟩⟩, h1⟩
  · unfold placeK at h1
    rw [decide_eq_false (by simp [maskL_length])] at h1
    simp only at h1
    split at h1
    · rename_i p o' hp ho
      have : (maskL row.vis 0 s ++ [some o])[s.length]? = some (some o) := by rw [List.getElem?_append_right (by rw [maskL_length]; exact Nat.le_refl _), maskL_length]; simp
      rw [rd_some.2 this] at ho
      simp only [Option.some.injEq] at ho
      subst ho
      exact ⟨_, _, ⟨v', _, h2, .inr (.inr ⟨o, p, rfl, hp, rfl, rfl⟩)⟩, h1⟩
    · exact h1.elim
  · rw [maskL_length] at h4
    unfold placeK at h1
    rw [decide_eq_true h4] at h1
    exact ⟨v', _, ⟨v', s', h2, .inr (.inl ⟨by rw [hw]; exact h3, h4, rfl, rfl⟩)⟩, h1⟩
theorem run_of_dopsD (hΓ : GamDet mu Γ) : ∀ (l : List Oper) (c : Nat) (acc : List Row) (t : Tm) (s : St) (K : Tm → St → Prop), (∀ (j : Nat) (o : Oper), l[j]? = some o → ops[acc.length + j]? = some o) → dopsD D Γ mu n ops base top l c acc t s K →
    ∃ rows t' s', drawOk ops base top (acc.reverse ++ rows) = true ∧ K t' s' ∧ Run D Γ n ops (acc.reverse ++ rows) (List.range' acc.length l.length) (get t) s (get t') s'
  | [], c, acc, t, s, K, _, h => by
    simp only [dopsD] at h
    split at h
    · rename_i hd
      exact ⟨[], t, s, by simpa using hd, h, by simp [Run]⟩
    · exact h.elim
  | o :: r, c, acc, t, s, K, ho, h => by
    have h0 : ops[acc.length]? = some o := by simpa using ho 0 o rfl
    have next : ∀ (row : Row) c' t1 s1, dopsD D Γ mu n ops base top r c' (row :: acc) t1 s1 K → ∃ rows t' s', drawOk ops base top (acc.reverse ++ (row :: rows)) = true ∧ K t' s' ∧ Run D Γ n ops (acc.reverse ++ (row :: rows)) (List.range' (acc.length + 1) r.length) (get t1) s1 (get t') s' := fun row c' t1 s1 h1 => by
      obtain ⟨rows, t', s', k1, k2, k3⟩ := run_of_dopsD hΓ r c' (row :: acc) t1 s1 K (fun j o hj => by
        have := ho (j + 1) o (by simpa using hj)
        rwa [show acc.length + (j + 1) = (row :: acc).length + j by simp; omega] at this) h1
      simp only [List.reverse_cons, List.append_assoc, List.singleton_append, List.length_cons] at k1 k3
      exact ⟨rows, t', s', k1, k2, k3⟩
    have hrow : ∀ (row : Row) rows, (acc.reverse ++ (row :: rows))[acc.length]? = some row := fun row rows => by
      rw [List.getElem?_append_right (by simp)]; simp
    simp only [dopsD] at h
    obtain ⟨t1, e1, h⟩ := dguard_cases h
    rw [List.length_cons, List.range'_succ]
    rcases h with ⟨hb, h⟩ | ⟨hb, h⟩
    · obtain ⟨v, s1, h1, h2⟩ := eff_of_dop (row := rowOf mu o.op (ev t1) s c) hΓ rfl h
      obtain ⟨t2, k1, k2, k3⟩ := fin_setF h2
      obtain ⟨rows, t', s', q1, q2, q3⟩ := next (rowOf mu o.op (ev t1) s c) _ _ _ k1
      refine ⟨rowOf mu o.op (ev t1) s c :: rows, t', s', q1, q2, get t2, s1, ⟨o, rowOf mu o.op (ev t1) s c, h0, hrow _ _, k3, .inl ⟨hb, v, ?_, ?_⟩⟩, q3⟩
      · rw [← e1]; exact h1
      · rw [k2, e1]
    · obtain ⟨t2, k1, k2, k3⟩ := fin_setF h
      obtain ⟨rows, t', s', q1, q2, q3⟩ := next _ _ _ _ k1
      exact ⟨_ :: rows, t', s', q1, q2, get t2, s, ⟨o, _, h0, hrow _ _, k3, .inr ⟨hb, by rw [k2, e1], rfl⟩⟩, q3⟩

/-- A place that is kept free. -/
def Free (g : G) (s : St) (p : Nat) : Prop := s[p]? = some none ∧ ∀ v, g.ob p v = none
theorem RelT.dst {o : Oper} {v : T} {x : Value} (ht : RelT g n t a) (hx : R g v x) (hd : ∀ d, o.dst = some d → d < n) : ∃ t', get t' = setF (get t) o.dst v ∧ RelT g n t' (a.put o.dst x) := by
  cases h : o.dst with
  | none => exact ⟨t, rfl, ht⟩
  | some d => exact ⟨Go.Proofs.Ythjikjhddddplaa.put t d v, by funext i; rw [get_put]; rfl, ht.put (hd d h) hx⟩
theorem gdF_sound {o : Oper} {b : Bool} (ht : RelT g n t a) (h : gdF ops o.guard (get t) = some b) : Region.wanted o (yielded ops a.tmps) = b := by
  have : dguard (gdOf ops o.guard) t (fun _ => b = true) (fun _ => b = false) := by
    unfold gdF at h
    unfold dguard
    cases hg : gdOf ops o.guard with
    | none => rw [hg] at h; cases h
    | some x =>
      rw [hg] at h
      cases x with
      | none =>
        simp only [Option.some.injEq] at h
        exact h.symm
      | some p =>
        obtain ⟨d, want⟩ := p
        simp only at h ⊢
        generalize get t d = gv at h ⊢
        split at h
        · rename_i b'
          simp only [Option.some.injEq] at h
          subst h
          cases want <;> cases b' <;> simp
        · simp only [Option.some.injEq] at h
          exact h.symm
        · cases h
  rcases dguard_sound ht this with ⟨_, _, e, hw⟩ | ⟨_, _, e, hw⟩
  · rw [hw, e]
  · rw [hw, e]
theorem Stp_sound (hD : TDok P D) (hΓ : GamOk P Γ) {Q : Exit → Act → World → Prop} {K : Act → World → Prop} {i : Nat} {τ' : Nat → T} (hg : Good g st w) (ht : RelT g n t a) (h : Stp D Γ n ops tab i (get t) st τ' st') (hown : ∀ row p, tab[i]? = some row → row.own = some p → Free g st p)
    (hK : ∀ g' t' w' a', get t' = τ' → Good g' st' w' → RelT g' n t' a' → g.le g' → (∀ b0, Step b0 g st w g' st' w') → (∀ k, Free g st k → (∀ row, tab[i]? = some row → row.own ≠ some k) → Free g' st' k) → K a' w') : wpOp P ops Q i K a w := by
  obtain ⟨o, row, h1, hrow, h3, h4⟩ := h
  unfold wpOp
  simp only [h1]
  rcases h4 with ⟨hb, v, he, rfl⟩ | ⟨hb, rfl, rfl⟩
  · rw [if_pos (gdF_sound ht hb)]
    left
    obtain ⟨v', s', k1, k2⟩ := he
    rw [← ev_evF] at k1
    refine dop_sound hD hΓ (good_mask hg) ht (k1 (fun v s => v = v' ∧ s = s') ⟨rfl, rfl⟩) K Q (fun v2 s2 x g2 w2 hk g2ok l2 st2 r2 => ?_) (fun _ _ _ _ _ hx => hx.elim)
    obtain ⟨rfl, rfl⟩ := hk
    have hback : ∀ (hl : s2.length = st.length), (v = v2 ∧ st' = back row.vis 0 st s2) → K (a.put o.dst x) w2 := by
      rintro hl ⟨rfl, rfl⟩
      obtain ⟨q1, q2, q3⟩ := good_back hg g2ok st2 l2 hl
      obtain ⟨t', e1, e2⟩ := (ht.mono q3.le).dst (o := o) r2 h3
      refine hK g2 t' w2 _ e1 q1 e2 q3.le q2 fun k hk _ => ?_
      have hob : ∀ u, g2.ob k u = none := fun u => by rw [q3.hid k u hk.1]; exact hk.2 u
      refine ⟨?_, hob⟩
      have hkl : k < (back row.vis 0 st s2).length := by rw [back_length]; exact (List.getElem?_eq_some_iff.1 hk.1).1
      rw [List.getElem?_eq_getElem hkl]
      cases hc : (back row.vis 0 st s2)[k] with
      | none => rfl
      | some o2 =>
        obtain ⟨oi, hoi, _⟩ := q1.obj k o2 (by rw [List.getElem?_eq_getElem hkl, hc])
        rw [hob] at hoi; cases hoi
    rcases k2 with ⟨rfl, rfl, rfl⟩ | ⟨_, a2, rfl, rfl⟩ | ⟨ob, p, rfl, a2, rfl, rfl⟩
    · exact hback maskL_length ⟨rfl, back_mask.symm⟩
    · exact hback a2 ⟨rfl, rfl⟩
    · obtain ⟨f1, f2⟩ := hown row p hrow a2
      obtain ⟨q1, q2, q3, q4, q5⟩ := good_new hg g2ok st2 l2 f1 f2
      obtain ⟨t', e1, e2⟩ := (ht.mono q3).dst (o := o) (q5 _ _ r2) h3
      refine hK _ t' w2 _ e1 q1 e2 q3 q2 fun k hk hne => ?_
      have hkp : k ≠ p := fun e => hne row hrow (by rw [a2, e])
      exact ⟨by rw [List.getElem?_set, if_neg (Ne.symm hkp)]; exact hk.1, fun u => by rw [q4 k u hk.1 hkp]; exact hk.2 u⟩
  · rw [if_neg (by rw [gdF_sound ht hb]; simp)]
    obtain ⟨t', q1, q2⟩ := ht.dst (o := o) (R.cst Go.undef) h3
    exact hK g t' w _ q1 hg q2 (G.le_refl g) (fun _ => Step.refl) fun k hk _ => hk

/-- What is left of a region, in the text's order. -/
def left (ops : Array Oper) (listed : Array Bool) : List Nat := (List.range ops.size).filter fun i => !listed.getD i true
theorem left_set {listed : Array Bool} {i : Nat} (hs : listed.size = ops.size) (hi : i < ops.size) (hn : listed.getD i true = false) : ∃ r1 r2, left ops listed = r1 ++ i :: r2 ∧ left ops (listed.setIfInBounds i true) = r1 ++ r2 ∧ ∀ j ∈ r1, j < i ∧ listed.getD j true = false := by
  unfold left
  have hsplit : List.range ops.size = List.range i ++ i :: List.range' (i + 1) (ops.size - (i + 1)) := by
    rw [List.range_eq_range', List.range_eq_range']
    have h1 : List.range' 0 ops.size = List.range' 0 i ++ List.range' i (ops.size - i) := by
      have := (List.range'_append_1 (s := 0) (m := i) (n := ops.size - i)).symm
      rw [Nat.zero_add, show i + (ops.size - i) = ops.size by omega] at this
      exact this
    rw [h1, show ops.size - i = (ops.size - (i + 1)) + 1 by omega, List.range'_succ]
  have hset : ∀ j, j ≠ i → (listed.setIfInBounds i true).getD j true = listed.getD j true := fun j hj => by
    simp [Array.getElem?_setIfInBounds, Ne.symm hj]
  refine ⟨(List.range i).filter fun j => !listed.getD j true, (List.range' (i + 1) (ops.size - (i + 1))).filter fun j => !listed.getD j true, ?_, ?_, fun j hj => ?_⟩
  · rw [hsplit, List.filter_append, List.filter_cons, if_pos (by simp [hn])]
  · rw [hsplit, List.filter_append, List.filter_cons, if_neg (by simp [Array.getElem?_setIfInBounds, hs, hi])]
    congr 1
    · exact List.filter_congr fun j hj => by rw [hset j (by have := List.mem_range.1 hj; omega)]
    · exact List.filter_congr fun j hj => by rw [hset j (by have := List.mem_range'_1.1 hj; omega)]
  · obtain ⟨h1, h2⟩ := List.mem_filter.1 hj
    exact ⟨List.mem_range.1 h1, by simpa using h2⟩
theorem any_sound (hD : TDok P D) (hΓ : GamOk P Γ) {Q : Exit → Act → World → Prop} (hk : drawOk ops base top tab = true) {τf : Nat → T} {stf : St} : ∀ (fuel : Nat) (listed : Array Bool) (g : G) (w : World) (a : Act) (t : Tm) (st : St), listed.size = ops.size → ShutUnder ops listed → fuel = (left ops listed).length →
    Run D Γ n ops tab (left ops listed) (get t) st τf stf → Good g st w → RelT g n t a → (∀ i ∈ left ops listed, ∀ row p, tab[i]? = some row → row.own = some p → Free g st p) → (∀ g' t' w' a', get t' = τf → Good g' stf w' → RelT g' n t' a' → (∀ b0, Step b0 g st w g' stf w') → Q .normal a' w') → wpAny P .any ops Q fuel listed a w := by
  simp only [drawOk, Bool.and_eq_true, beq_iff_eq] at hk
  obtain ⟨⟨hk1, hk2⟩, hk3⟩ := hk
  obtain ⟨hin, hinj⟩ := incr_lt hk2
  generalize befs ops.toList [] = W at hk3
  have hk' : ∀ (i : Nat) (y : Oper), ops[i]? = some y → ∃ q, tab[i]? = some q ∧ (∀ e ∈ y.after, Region.binds .any e = true → e.on < i) ∧ W[i]? = some (orr W y.after.toList) ∧ ∀ j, j < i → (orr W y.after.toList).testBit j = true ∨ ∀ (x : Oper) (p : Row), ops[j]? = some x → tab[j]? = some p → indep ops x y p q = true := by
    intro i y hy
    have := List.all_eq_true.1 hk3 i (List.mem_range.2 (Array.getElem?_eq_some_iff.1 hy).1)
    rw [hy] at this
    split at this
    · rename_i y' q b hy' hq hb
      simp only [Option.some.injEq] at hy'
      subst hy'
      simp only [Bool.and_eq_true, beq_iff_eq] at this
      obtain ⟨⟨h1, h2⟩, h3⟩ := this
      refine ⟨q, hq, fun e he hbi => ?_, by rw [hb, h2], fun j hj => ?_⟩
      · have h4 := Array.all_eq_true'.1 h1 e he
        rw [hbi] at h4
        exact Nat.le_of_ble_eq_true h4
      · have h4 := List.all_eq_true.1 h3 j (List.mem_range.2 hj)
        simp only [Bool.or_eq_true] at h4
        rw [h2]
        rcases h4 with h4 | h4
        · exact .inl h4
        · exact .inr fun x p hx hp => by rw [hx, hp] at h4; exact h4
    · cases this
  intro fuel
  induction fuel with
  | zero =>
    intro listed g w a t st hs hc hf hrun hg ht hfree hq
    have hnil : left ops listed = [] := List.eq_nil_of_length_eq_zero hf.symm
    rw [hnil] at hrun
    obtain ⟨e1, e2⟩ := hrun
    subst e2
    refine ⟨?_, hq g t w a e1 hg ht fun _ => Step.refl⟩
    cases hr : Region.ready .any ops listed with
    | nil => rfl
    | cons i r =>
      have hi : i ∈ Region.ready .any ops listed := by rw [hr]; simp
      obtain ⟨h1, o, h2, _⟩ := mem_ready.1 hi
      have : i ∈ left ops listed := List.mem_filter.2 ⟨List.mem_range.2 (Array.getElem?_eq_some_iff.1 h2).1, by simpa using h1⟩
      rw [hnil] at this
      cases this
  | succ fuel ih =>
    intro listed g w a t st hs hc hf hrun hg ht hfree hq
    refine ⟨fun hr => ?_, fun i hi => ?_⟩
    · -- the first of those left is ready
      exfalso
      cases hl : left ops listed with
      | nil => rw [hl] at hf; simp at hf
      | cons i r =>
        have hi : i ∈ left ops listed := by rw [hl]; simp
        obtain ⟨h1, h2⟩ := List.mem_filter.1 hi
        have hlt := List.mem_range.1 h1
        have ho : ops[i]? = some ops[i] := Array.getElem?_eq_getElem hlt
        have hsorted : (left ops listed).Pairwise (· < ·) := List.Pairwise.filter _ List.pairwise_lt_range
        have hfirst : ∀ j, j < i → listed.getD j true = true := by
          intro j hj
          cases hjl : listed.getD j true with
          | true => rfl
          | false =>
            exfalso
            have : j ∈ left ops listed := List.mem_filter.2 ⟨List.mem_range.2 (by omega), by simpa using hjl⟩
            rw [hl] at this hsorted
            rcases List.mem_cons.1 this with h | h
            · omega
            · have := List.rel_of_pairwise_cons hsorted h; omega
        obtain ⟨q, _, hq2, _⟩ := hk' i _ ho
        have : i ∈ Region.ready .any ops listed := mem_ready.2 ⟨by simpa using h2, ops[i], ho, fun e he hb => by
          have hlt' := hq2 e he hb
          have := hfirst e.on hlt'
          have hsz : e.on < listed.size := by omega
          simp [hsz] at this ⊢
          exact this⟩
        rw [hr] at this
        cases this
    · obtain ⟨h1, o, h2, h3⟩ := mem_ready.1 hi
      have hlt := (Array.getElem?_eq_some_iff.1 h2).1
      obtain ⟨r1, r2, e1, e2, e3⟩ := left_set hs hlt h1
      have himem : i ∈ left ops listed := by rw [e1]; simp
      have hnotin : i ∉ r1 ++ r2 := by
        have hnd : (left ops listed).Nodup := List.nodup_range.filter _
        rw [e1] at hnd
        intro h
        have := List.nodup_append.1 hnd
        rcases List.mem_append.1 h with h | h
        · exact this.2.2 i h i (by simp) rfl
        · exact (List.nodup_cons.1 this.2.1).1 h
      rw [e1] at hrun
      obtain ⟨q, hq1, hq2, hq3, hq4⟩ := hk' i o h2
      have hun : ∀ j, j < ops.size → listed.getD j true = false → listed.getD j false = false := fun j hj h => by
        have hsz : j < listed.size := by omega
        simp [hsz] at h ⊢
        exact h
      obtain ⟨τ1, st1, s1, s2⟩ := Run_take r1 (fun j hj x y p q' hx hy hp hq' => by
        obtain ⟨hj1, hj2⟩ := e3 j hj
        rw [h2] at hy
        injection hy with hy
        subst hy
        rw [hq1] at hq'
        injection hq' with hq'
        subst hq'
        rcases hq4 j hj1 with h | h
        · have := before_listed (W := W) hc (fun i y hy => by obtain ⟨_, _, z1, z2, _⟩ := hk' i y hy; exact ⟨z1, z2⟩) i o j h2 h3 h
          rw [hun j (by omega) hj2] at this
          cases this
        · exact h x p hx hp) hrun
      refine Stp_sound hD hΓ hg ht s1 (fun row p hr hp => hfree i himem row p hr hp) fun g' t' w' a' g0 g1 r1' _ st' fr' => ?_
      refine ih (listed.setIfInBounds i true) g' w' a' t' st1 (by simpa using hs) (hc.set hi) ?_ ?_ g1 r1' (fun j hj row p hr hp => ?_) fun g2 t2 w2 a2 k1 k2 k3 k4 => hq g2 t2 w2 a2 k1 k2 k3 fun b0 => (st' b0).trans (k4 b0)
      · rw [e1] at hf
        rw [e2]
        simp at hf ⊢
        omega
      · rw [e2, g0]
        exact s2
      · rw [e2] at hj
        have hj' : j ∈ left ops listed := by
          rw [e1]
          rcases List.mem_append.1 hj with h | h
          · simp [h]
          · simp [h]
        refine fr' p (hfree j hj' row p hr hp) fun row' hr' hp' => ?_
        have := hinj j i row row' p hr hr' hp hp'
        subst this
        exact hnotin hj
theorem good_more (hg : Good g st w) (m : Nat) : Good g (st ++ List.replicate m none) w ∧ ∀ b0, Step b0 g st w g (st ++ List.replicate m none) w := by
  have hl : ∀ (k : Nat) (o : Ob), (st ++ List.replicate m none)[k]? = some (some o) ↔ st[k]? = some (some o) := by
    intro k o
    by_cases h : k < st.length
    · rw [List.getElem?_append_left h]
    · rw [List.getElem?_append_right (by omega), List.getElem?_eq_none (l := st) (by omega), List.getElem?_replicate]
      split <;> simp
  refine ⟨⟨hg.ro, fun k o h => hg.obj k o ((hl k o).1 h), fun k k' o o' b h h' => hg.inj k k' o o' b ((hl k o).1 h) ((hl k' o').1 h'), fun k v oi h => ?_⟩, fun b0 => ⟨rfl, rfl, rfl, Nat.le_refl _, fun _ _ _ => rfl, fun _ _ h => h, fun b hb => ?_, fun _ _ h => .inl h, fun k _ o ho => ?_, fun k _ ver e l ho => ⟨ver, l, (hl k _).2 ho, fun e0 => ⟨e0, rfl⟩⟩⟩⟩
  · obtain ⟨h1, h2⟩ := hg.old k v oi h
    exact ⟨by simp; omega, fun o ho => h2 o ((hl k o).1 ho)⟩
  · obtain ⟨k, o, h1, h2⟩ := hb
    exact .inl ⟨k, o, (hl k o).1 h1, h2⟩
  · cases o with
    | cells cs => exact ⟨cs, (hl k _).2 ho, rfl, rfl⟩
    | arr ver e l => exact ⟨ver, l, (hl k _).2 ho⟩
def newCount : List Oper → Nat
  | [] => 0
  | o :: r => match newOp o.op with
    | true => newCount r + 1
    | false => newCount r
def nones : Nat → St
  | 0 => []
  | n + 1 => none :: nones n
theorem nones_eq : ∀ m, nones m = List.replicate m none
  | 0 => rfl
  | m + 1 => by simp [nones, nones_eq m, List.replicate_succ]
/-- A region that draws. -/
def dregD (D : TD) (Γ : Gam) (mu : FuncId → Bool) (n : Nat) (ops : Array Oper) (t : Tm) (s : St) (K : Tm → St → Prop) : Prop :=
  dopsD D Γ mu n ops s.length (s.length + newCount ops.toList) ops.toList s.length [] t (s ++ nones (newCount ops.toList)) K
theorem awp_draw (hD : TDok P D) (hΓ : GamOk P Γ) (hdet : GamDet mu Γ) (hm : P.follows .mixedOrders = true) {id : Nat} {Q : Kc} (h : dregD D Γ mu n ops t st (Q .normal)) : awp P n b0 (.region id ops true) Q t st := by
  intro g w a hg ht
  unfold dregD at h
  rw [nones_eq] at h
  obtain ⟨tab, t', s', k1, k2, k3⟩ := run_of_dopsD (ops := ops) hdet ops.toList st.length [] t _ _ (fun j o hj => by simpa using hj) h
  simp only [List.reverse_nil, List.nil_append] at k1 k3
  refine wp_region_any hm ?_
  obtain ⟨g1, s1⟩ := good_more hg (newCount ops.toList)
  obtain ⟨g2, s2⟩ := good_drew g1 (n := w.drawn + 1)
  have hleft : left ops (Array.replicate ops.size false) = List.range' 0 ops.toList.length := by
    unfold left
    rw [List.filter_eq_self.2 (fun i hi => by
      have := List.mem_range.1 hi
      simp [this]), List.range_eq_range']
    simp
  have hin := (incr_lt (by simp only [drawOk, Bool.and_eq_true] at k1; exact k1.1.2)).1
  refine any_sound hD hΓ k1 _ _ g _ a t _ (by simp) ?_ (by rw [hleft]; simp) (by rw [hleft]; exact k3) g2 ht (fun i _ row p hr hp => ?_) fun g' t2 w' a' q1 q2 q3 q4 => ?_
  · intro j o _ hj
    simp [Array.getElem?_replicate] at hj
    split at hj <;> simp at hj
  · obtain ⟨h1, h2⟩ := hin i row p hr hp
    refine ⟨?_, fun v => ?_⟩
    · rw [List.getElem?_append_right h1, List.getElem?_replicate, if_pos (by omega)]
    · cases hob : g.ob p v with
      | none => rfl
      | some oi => have := (hg.old p v oi hob).1; omega
  · exact ⟨.normal, g', t', s', k2, trivial, q2, ⟨q3.size, q3.defers, fun i => by rw [← q1]; exact q3.val i⟩, (s1 b0).trans ((s2 b0).trans (q4 b0))⟩
end
end Go.Proofs.Ythjikjhddddplaa
