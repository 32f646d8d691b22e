/-
  The machine over typed values, 18: regions that draw their order: the order of the text is enough. No program in sight.
-/
import Derived.Test.YthjikjhddddplaaMD2
import Derived.OrdersHeld
namespace Go.Proofs.Ythjikjhddddplaa
set_option linter.unusedVariables false
set_option linter.unusedSimpArgs false
open Go.RowKit

/-- For an operation of a region that draws: which objects it sees; may it write? the place of its own object. -/
structure Row where
  vis : Nat
  wr : Bool
  own : Option Nat
def evF (τ : Nat → T) : Operand → T
  | .tmp i => τ i
  | .const v => tval v
  | .global g => .cst (.pointer (some ⟨g, 0, none⟩))
  | .func f => .fn f [] []
theorem ev_evF (t : Tm) : ev t = evF (get t) := by funext x; cases x <;> rfl
def setF (τ : Nat → T) (dst : Option Tmp) (v : T) : Nat → T :=
  match dst with
  | none => τ
  | some d => fun i => if i = d then v else τ i
def gdF (ops : Array Oper) (g : Option (Nat × Bool)) (τ : Nat → T) : Option Bool :=
  match gdOf ops g with
  | some none => some true
  | some (some (d, want)) => match τ d with
    | .bool b => some (b == want)
    | .cst (.tuple _) => some false
    | _ => none
  | none => none
abbrev noX : Kn := fun _ _ => False
/-- What an operation of a drawing region does. -/
def Eff (D : TD) (Γ : Gam) (row : Row) (op : Op) (τ : Nat → T) (s : St) (v : T) (s1 : St) : Prop :=
  ∃ v' s', (∀ K : Kn, K v' s' → dop D Γ op (evF τ) (maskL row.vis 0 s) K noX) ∧
    ((s' = maskL row.vis 0 s ∧ v = v' ∧ s1 = s) ∨ (row.wr = true ∧ s'.length = s.length ∧ v = v' ∧ s1 = back row.vis 0 s s') ∨
     ∃ o p, s' = maskL row.vis 0 s ++ [some o] ∧ row.own = some p ∧ v = fixV s.length p v' ∧ s1 = s.set p (some (fixOb s.length p o)))
def Stp (D : TD) (Γ : Gam) (n : Nat) (ops : Array Oper) (tab : List Row) (i : Nat) (τ : Nat → T) (s : St) (τ' : Nat → T) (s' : St) : Prop :=
  ∃ o row, ops[i]? = some o ∧ tab[i]? = some row ∧ (∀ d, o.dst = some d → d < n) ∧ ((gdF ops o.guard τ = some true ∧ ∃ v, Eff D Γ row o.op τ s v s' ∧ τ' = setF τ o.dst v) ∨ (gdF ops o.guard τ = some false ∧ τ' = setF τ o.dst (.cst Go.undef) ∧ s' = s))
def Run (D : TD) (Γ : Gam) (n : Nat) (ops : Array Oper) (tab : List Row) : List Nat → (Nat → T) → St → (Nat → T) → St → Prop
  | [], τ, s, τ', s' => τ = τ' ∧ s = s'
  | i :: r, τ, s, τ', s' => ∃ τ1 s1, Stp D Γ n ops tab i τ s τ1 s1 ∧ Run D Γ n ops tab r τ1 s1 τ' s'

theorem evF_set {τ : Nat → T} {dst : Option Tmp} {v : T} {x : Operand} (h : ∀ d, dst = some d → x ≠ .tmp d) : evF (setF τ dst v) x = evF τ x := by
  cases dst with
  | none => rfl
  | some d =>
    cases x with
    | tmp i =>
      have : i ≠ d := fun e => h d rfl (by rw [e])
      simp [evF, setF, this]
    | _ => rfl
theorem map_ev {ρ ρ' : Operand → T} {l : List Operand} (h : ∀ x ∈ l, ρ x = ρ' x) : l.map ρ = l.map ρ' := List.map_congr_left h
theorem dop_ev {D : TD} {Γ : Gam} {op : Op} {ρ ρ' : Operand → T} {s : St} {K X : Kn} (h : ∀ x ∈ op.operands, ρ x = ρ' x) : dop D Γ op ρ s K X = dop D Γ op ρ' s K X := by
  cases op <;> try rfl
  case move x => simp only [dop]; rw [h x (by simp [Op.operands])]
  case assign x => simp only [dop]; rw [h x (by simp [Op.operands])]
  case pick c x y => simp only [dop]; rw [h c (by simp [Op.operands]), h x (by simp [Op.operands]), h y (by simp [Op.operands])]
  case box T x => simp only [dop]; rw [h x (by simp [Op.operands])]
  case build T ps =>
    simp only [dop]
    rw [show (ps.toList.map fun p => (p.1, ρ p.2)) = ps.toList.map fun p => (p.1, ρ' p.2) from List.map_congr_left fun p hp => by rw [h p.2 (by simp only [Op.operands]; simp; exact ⟨p.1, by simpa using hp⟩)]]
  case buildSlice T n ps =>
    simp only [dop]
    rw [show (ps.toList.map fun p => (p.1, ρ p.2)) = ps.toList.map fun p => (p.1, ρ' p.2) from List.map_congr_left fun p hp => by rw [h p.2 (by simp only [Op.operands]; simp; exact ⟨p.1, by simpa using hp⟩)]]
  case load T x => simp only [dop]; rw [h x (by simp [Op.operands])]
  case store T x y => simp only [dop]; rw [h x (by simp [Op.operands]), h y (by simp [Op.operands])]
  case nilCheck x => simp only [dop]; rw [h x (by simp [Op.operands])]
  case binOp op T x y U => simp only [dop]; rw [h x (by simp [Op.operands]), h y (by simp [Op.operands])]
  case unOp op T x => simp only [dop]; rw [h x (by simp [Op.operands])]
  case convert s d x => simp only [dop]; rw [h x (by simp [Op.operands])]
  case makeFunc f xs ys =>
    cases f <;> simp only [dop]
    rw [map_ev (l := xs.toList) fun x hx => h x (by simp [Op.operands]; exact .inl (by simpa using hx)), map_ev (l := ys.toList) fun x hx => h x (by simp [Op.operands]; exact .inr (by simpa using hx))]
  case slice T x lo hi mx =>
    simp only [dop]
    have h1 : lo.map ρ = lo.map ρ' := by cases lo <;> simp; exact h _ (by simp [Op.operands])
    have h2 : hi.map ρ = hi.map ρ' := by cases hi <;> simp; exact h _ (by simp [Op.operands])
    have h3 : mx.map ρ = mx.map ρ' := by cases mx <;> simp; exact h _ (by simp [Op.operands])
    rw [h x (by simp [Op.operands]), h1, h2, h3]
  case fieldAddr s x f => simp only [dop]; rw [h x (by simp [Op.operands])]
  case field s x f => simp only [dop]; rw [h x (by simp [Op.operands])]
  case indexAddr T x y => simp only [dop]; rw [h x (by simp [Op.operands]), h y (by simp [Op.operands])]
  case index T x y => simp only [dop]; rw [h x (by simp [Op.operands]), h y (by simp [Op.operands])]
  case extract x i => simp only [dop]; rw [h x (by simp [Op.operands])]
  case call c =>
    obtain ⟨callee, args, ts⟩ := c
    have hargs : args.toList.map ρ = args.toList.map ρ' := map_ev fun x hx => h x (by simp [Op.operands, Call.operands]; exact .inr (by simpa using hx))
    cases callee with
    | value f => simp only [dop]; rw [hargs, h f (by simp [Op.operands, Call.operands])]
    | builtin b => simp only [dop]; rw [hargs]
    | _ => rfl

/-! ### Two operations change places -/
/-- Neither operation sees what the other does. -/
def indep (ops : Array Oper) (x y : Oper) (p q : Row) : Bool :=
  (match x.dst with | some d => !(y.looksAt ops).contains d && y.dst != some d | none => true) &&
  (match y.dst with | some d => !(x.looksAt ops).contains d | none => true) &&
  (match p.own with | some a => !q.vis.testBit a | none => true) &&
  (match q.own with | some a => !p.vis.testBit a | none => true) &&
  (match p.own, q.own with | some a, some b => a != b | _, _ => true) &&
  (!(p.wr || q.wr) || p.vis &&& q.vis == 0)

section
variable {D : TD} {Γ : Gam} {n : Nat} {ops : Array Oper} {tab : List Row}

theorem looks_op {o : Oper} {d : Tmp} (h : d ∉ o.looksAt ops) : ∀ x ∈ o.op.operands, x ≠ .tmp d := by
  intro x hx e
  subst e
  apply h
  unfold Oper.looksAt
  rw [List.mem_append]
  left
  rw [List.mem_filterMap]
  exact ⟨.tmp d, by simpa using hx, rfl⟩
theorem looks_gd {o : Oper} {dst : Option Tmp} {τ : Nat → T} {v : T} (h : ∀ d, dst = some d → d ∉ o.looksAt ops) : gdF ops o.guard (setF τ dst v) = gdF ops o.guard τ := by
  cases dst with
  | none => rfl
  | some d =>
    have h := h d rfl
    unfold gdF gdOf
    cases hg : o.guard with
    | none => rfl
    | some p =>
      obtain ⟨j, want⟩ := p
      simp only
      cases hd : (ops[j]?).bind (·.dst) with
      | none => rfl
      | some e =>
        have : e ≠ d := fun e' => h (by
          unfold Oper.looksAt
          rw [List.mem_append]
          right
          simp [hg, hd, e'])
        simp [setF, this]
theorem looks_ev {o : Oper} {dst : Option Tmp} {τ : Nat → T} {v : T} (h : ∀ d, dst = some d → d ∉ o.looksAt ops) : ∀ x ∈ o.op.operands, evF (setF τ dst v) x = evF τ x :=
  fun x hx => evF_set fun d hd => looks_op (h d hd) x hx
theorem Eff_ev {row : Row} {op : Op} {τ τ' : Nat → T} {s s' : St} {v : T} (h : Eff D Γ row op τ s v s') (he : ∀ x ∈ op.operands, evF τ' x = evF τ x) : Eff D Γ row op τ' s v s' := by
  obtain ⟨v', s1, h1, h2⟩ := h
  exact ⟨v', s1, fun K hK => by rw [dop_ev he]; exact h1 K hK, h2⟩
theorem setF_comm {τ : Nat → T} {x y : Option Tmp} {v u : T} (h : ∀ d, x = some d → y ≠ some d) : setF (setF τ x v) y u = setF (setF τ y u) x v := by
  cases x with
  | none => rfl
  | some d =>
    cases y with
    | none => rfl
    | some e =>
      have hne : e ≠ d := fun e' => h d rfl (by rw [e'])
      funext i
      simp only [setF]
      by_cases h1 : i = e
      · subst h1; simp [hne]
      · simp [h1]
theorem indep_spec {x y : Oper} {p q : Row} (h : indep ops x y p q = true) : (∀ d, x.dst = some d → d ∉ y.looksAt ops) ∧ (∀ d, x.dst = some d → y.dst ≠ some d) ∧ (∀ d, y.dst = some d → d ∉ x.looksAt ops) ∧
    (∀ a, p.own = some a → q.vis.testBit a = false) ∧ (∀ a, q.own = some a → p.vis.testBit a = false) ∧ (∀ a b, p.own = some a → q.own = some b → a ≠ b) ∧ (p.wr = true ∨ q.wr = true → ∀ i, p.vis.testBit i = true → q.vis.testBit i = true → False) := by
  simp only [indep, Bool.and_eq_true] at h
  obtain ⟨⟨⟨⟨⟨h1, h2⟩, h3⟩, h4⟩, h5⟩, h6⟩ := h
  refine ⟨fun d hd => ?_, fun d hd => ?_, fun d hd => ?_, fun a ha => ?_, fun a ha => ?_, fun a b ha hb => ?_, fun hw i hi hj => ?_⟩
  · simp [hd] at h1; exact h1.1
  · simp [hd] at h1; exact h1.2
  · simp [hd] at h2; exact h2
  · simpa [ha] using h3
  · simpa [ha] using h4
  · simpa [ha, hb] using h5
  · have h6 : p.vis &&& q.vis = 0 := by rcases hw with hw | hw <;> simpa [hw] using h6
    have := Nat.testBit_and p.vis q.vis i
    rw [h6, hi, hj] at this
    simp at this
theorem mask_set {m k : Nat} {s : St} {o : Option Ob} (h : m.testBit k = false) : maskL m 0 (s.set k o) = maskL m 0 s := by
  refine List.ext_getElem? fun i => ?_
  rw [maskL_get, maskL_get, List.getElem?_set]
  by_cases e : k = i
  · subst e
    simp only [if_true, Nat.zero_add, h, Bool.false_eq_true, if_false]
    by_cases hl : k < s.length
    · rw [if_pos hl, List.getElem?_eq_getElem hl]; rfl
    · rw [if_neg hl, List.getElem?_eq_none (by omega)]
  · rw [if_neg e]
theorem mask_back {m m' : Nat} {s s' : St} (hl : s'.length = s.length) (h : ∀ i, m.testBit i = true → m'.testBit i = true → False) : maskL m 0 (back m' 0 s s') = maskL m 0 s := by
  refine List.ext_getElem? fun i => ?_
  rw [maskL_get, maskL_get, back_get hl, Nat.zero_add]
  by_cases hb : m'.testBit i = true
  · have hmi : m.testBit i = false := by cases hb' : m.testBit i with | true => exact (h i hb' hb).elim | false => rfl
    simp only [hb, if_true, hmi, Bool.false_eq_true, if_false]
    by_cases hi : i < s.length
    · rw [List.getElem?_eq_getElem hi, List.getElem?_eq_getElem (by omega)]; rfl
    · rw [List.getElem?_eq_none (by omega), List.getElem?_eq_none (by omega)]
  · rw [if_neg hb]
theorem back_set {m k : Nat} {s s' : St} {o : Option Ob} (hl : s'.length = s.length) (h : m.testBit k = false) : back m 0 (s.set k o) s' = (back m 0 s s').set k o := by
  refine List.ext_getElem? fun i => ?_
  rw [back_get (by simpa using hl), List.getElem?_set, List.getElem?_set, back_get hl, back_length, Nat.zero_add]
  by_cases e : k = i
  · subst e; simp [h]
  · simp [e]
theorem back_back {m m' : Nat} {s s' s'' : St} (hl : s'.length = s.length) (hl' : s''.length = s.length) (h : ∀ i, m.testBit i = true → m'.testBit i = true → False) : back m 0 (back m' 0 s s') s'' = back m' 0 (back m 0 s s'') s' := by
  refine List.ext_getElem? fun i => ?_
  rw [back_get (by rw [back_length]; exact hl'), back_get hl, back_get (by rw [back_length]; exact hl), back_get hl', Nat.zero_add]
  by_cases h1 : m.testBit i = true <;> by_cases h2 : m'.testBit i = true
  · exact (h i h1 h2).elim
  · simp [h1, h2]
  · simp [h1, h2]
  · simp [h1, h2]
/-- The three kinds of effect. -/
theorem Eff_cases {row : Row} {op : Op} {τ : Nat → T} {s s1 : St} {v : T} (h : Eff D Γ row op τ s v s1) :
    (s1 = s ∧ ∀ st, maskL row.vis 0 st = maskL row.vis 0 s → Eff D Γ row op τ st v st) ∨
    (∃ p o, row.own = some p ∧ s1 = s.set p o ∧ ∀ st, maskL row.vis 0 st = maskL row.vis 0 s → Eff D Γ row op τ st v (st.set p o)) ∨
    (∃ s', row.wr = true ∧ s'.length = s.length ∧ s1 = back row.vis 0 s s' ∧ ∀ st, maskL row.vis 0 st = maskL row.vis 0 s → Eff D Γ row op τ st v (back row.vis 0 st s')) := by
  obtain ⟨v', s', h1, h2⟩ := h
  have hlen : ∀ st, maskL row.vis 0 st = maskL row.vis 0 s → st.length = s.length := fun st h => by
    have := congrArg List.length h
    rwa [maskL_length, maskL_length] at this
  rcases h2 with ⟨rfl, rfl, rfl⟩ | ⟨a1, a2, rfl, rfl⟩ | ⟨o, p, rfl, a2, rfl, rfl⟩
  · exact .inl ⟨rfl, fun st hst => ⟨v, _, fun K hK => by rw [hst]; exact h1 K hK, .inl ⟨hst.symm, rfl, rfl⟩⟩⟩
  · exact .inr (.inr ⟨s', a1, a2, rfl, fun st hst => ⟨v, s', fun K hK => by rw [hst]; exact h1 K hK, .inr (.inl ⟨a1, by rw [hlen st hst]; exact a2, rfl, rfl⟩)⟩⟩)
  · exact .inr (.inl ⟨p, _, a2, rfl, fun st hst => ⟨v', _, fun K hK => by rw [hst]; exact h1 K hK, .inr (.inr ⟨o, p, by rw [hst], a2, by rw [hlen st hst], by rw [hlen st hst]⟩)⟩⟩)
/-- Two effects change places. -/
theorem Eff_swap {x y : Oper} {p q : Row} {τ : Nat → T} {s s1 s2 : St} {v u : T} (hi : indep ops x y p q = true) (h1 : Eff D Γ p x.op τ s v s1) (h2 : Eff D Γ q y.op τ s1 u s2) :
    ∃ s1', Eff D Γ q y.op τ s u s1' ∧ Eff D Γ p x.op τ s1' v s2 := by
  obtain ⟨_, _, _, i4, i5, i6, i7⟩ := indep_spec hi
  rcases Eff_cases h1 with ⟨rfl, a⟩ | ⟨pa, oa, a1, rfl, a⟩ | ⟨sa, a1, a2, rfl, a⟩
  · rcases Eff_cases h2 with ⟨rfl, b⟩ | ⟨pb, ob, b1, rfl, b⟩ | ⟨sb, b1, b2, rfl, b⟩
    · exact ⟨_, h2, h1⟩
    · exact ⟨_, h2, a _ (mask_set (i5 pb b1))⟩
    · exact ⟨_, h2, a _ (mask_back b2 (i7 (.inr b1)))⟩
  · have hm : maskL q.vis 0 s = maskL q.vis 0 (s.set pa oa) := (mask_set (i4 pa a1)).symm
    rcases Eff_cases h2 with ⟨rfl, b⟩ | ⟨pb, ob, b1, rfl, b⟩ | ⟨sb, b1, b2, rfl, b⟩
    · exact ⟨s, b s hm, h1⟩
    · refine ⟨_, b s hm, ?_⟩
      rw [List.set_comm _ _ (i6 pa pb a1 b1)]
      exact a _ (mask_set (i5 pb b1))
    · refine ⟨_, b s hm, ?_⟩
      have b2' : sb.length = s.length := by simpa using b2
      rw [back_set b2' (i4 pa a1)]
      exact a _ (mask_back b2' (i7 (.inr b1)))
  · have hd := i7 (.inl a1)
    have hd' : ∀ i, q.vis.testBit i = true → p.vis.testBit i = true → False := fun i h1 h2 => hd i h2 h1
    have hm : maskL q.vis 0 s = maskL q.vis 0 (back p.vis 0 s sa) := (mask_back a2 hd').symm
    rcases Eff_cases h2 with ⟨rfl, b⟩ | ⟨pb, ob, b1, rfl, b⟩ | ⟨sb, b1, b2, rfl, b⟩
    · exact ⟨s, b s hm, h1⟩
    · refine ⟨_, b s hm, ?_⟩
      rw [← back_set a2 (i5 pb b1)]
      exact a _ (mask_set (i5 pb b1))
    · rw [back_length] at b2
      refine ⟨_, b s hm, ?_⟩
      rw [back_back a2 b2 hd']
      exact a _ (mask_back b2 hd)
theorem Stp_swap {i j : Nat} {τ τ1 τ2 : Nat → T} {s s1 s2 : St} (hi : ∀ x y p q, ops[j]? = some x → ops[i]? = some y → tab[j]? = some p → tab[i]? = some q → indep ops x y p q = true)
    (h1 : Stp D Γ n ops tab j τ s τ1 s1) (h2 : Stp D Γ n ops tab i τ1 s1 τ2 s2) : ∃ τ1' s1', Stp D Γ n ops tab i τ s τ1' s1' ∧ Stp D Γ n ops tab j τ1' s1' τ2 s2 := by
  obtain ⟨x, p, x1, x2, x3, x4⟩ := h1
  obtain ⟨y, q, y1, y2, y3, y4⟩ := h2
  have hind := hi x y p q x1 y1 x2 y2
  obtain ⟨i1, i2, i3, _⟩ := indep_spec hind
  rcases x4 with ⟨gx, v, ex, rfl⟩ | ⟨gx, rfl, rfl⟩
  · rw [looks_gd i1] at y4
    rcases y4 with ⟨gy, u, ey, rfl⟩ | ⟨gy, rfl, rfl⟩
    · have ey' := Eff_ev ey (τ' := τ) fun z hz => (looks_ev i1 z hz).symm
      obtain ⟨st1', e1, e2⟩ := Eff_swap hind ex ey'
      exact ⟨_, st1', ⟨y, q, y1, y2, y3, .inl ⟨gy, u, e1, rfl⟩⟩, ⟨x, p, x1, x2, x3, .inl ⟨by rw [looks_gd i3]; exact gx, v, Eff_ev e2 (looks_ev i3), setF_comm i2⟩⟩⟩
    · exact ⟨_, s, ⟨y, q, y1, y2, y3, .inr ⟨gy, rfl, rfl⟩⟩, ⟨x, p, x1, x2, x3, .inl ⟨by rw [looks_gd i3]; exact gx, v, Eff_ev ex (looks_ev i3), setF_comm i2⟩⟩⟩
  · rw [looks_gd i1] at y4
    rcases y4 with ⟨gy, u, ey, rfl⟩ | ⟨gy, rfl, rfl⟩
    · have ey' := Eff_ev ey (τ' := τ) fun z hz => (looks_ev i1 z hz).symm
      exact ⟨_, s2, ⟨y, q, y1, y2, y3, .inl ⟨gy, u, ey', rfl⟩⟩, ⟨x, p, x1, x2, x3, .inr ⟨by rw [looks_gd i3]; exact gx, setF_comm i2, rfl⟩⟩⟩
    · exact ⟨_, _, ⟨y, q, y1, y2, y3, .inr ⟨gy, rfl, rfl⟩⟩, ⟨x, p, x1, x2, x3, .inr ⟨by rw [looks_gd i3]; exact gx, setF_comm i2, rfl⟩⟩⟩
theorem Run_take {i : Nat} {r2 : List Nat} : ∀ (r1 : List Nat) {τ τ' : Nat → T} {s s' : St}, (∀ j ∈ r1, ∀ x y p q, ops[j]? = some x → ops[i]? = some y → tab[j]? = some p → tab[i]? = some q → indep ops x y p q = true) →
    Run D Γ n ops tab (r1 ++ i :: r2) τ s τ' s' → ∃ τ1 s1, Stp D Γ n ops tab i τ s τ1 s1 ∧ Run D Γ n ops tab (r1 ++ r2) τ1 s1 τ' s'
  | [], _, _, _, _, _, h => h
  | j :: r1, τ, τ', s, s', hi, h => by
    obtain ⟨τ1, st1, h1, h2⟩ := h
    obtain ⟨τ2, st2, h3, h4⟩ := Run_take r1 (fun j hj => hi j (by simp [hj])) h2
    obtain ⟨τ3, st3, h5, h6⟩ := Stp_swap (hi j (by simp)) h1 h3
    exact ⟨τ3, st3, h5, τ2, st2, h6, h4⟩
end
end Go.Proofs.Ythjikjhddddplaa
