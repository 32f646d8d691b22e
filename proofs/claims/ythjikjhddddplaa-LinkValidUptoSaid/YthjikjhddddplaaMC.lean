/-
  The machine over typed values, 11: code. No program in sight.
-/
import Derived.Test.YthjikjhddddplaaMS6
import Derived.Deep.LoopGhost
namespace Go.Proofs.Ythjikjhddddplaa
set_option linter.unusedVariables false
set_option linter.unusedSimpArgs false
open Go.RowKit

inductive Ex where
  | normal
  | exit (id : Nat)
  | goto (l : Nat)
  | ret
  | pan (v : T)
abbrev Kc := Ex → Tm → St → Prop

def enters (P : Program) (f : FuncId) : Bool :=
  match P.funcs[f]? with
  | some fn => !(fn.name == "runtime.NumGoroutine") && fn.body.isSome
  | none => false
structure RL (g : G) (us : List T) (args : Array Value) : Prop where
  len : us.length = args.size
  val : ∀ (i : Nat) (u : T) (x : Value), us[i]? = some u → args[i]? = some x → R g u x
/-- A call from a store: what was said of values stays said. -/
def DCalls (P : Program) (f : FuncId) (vs : List T) (st : St) (K X : Kn) : Prop :=
  enters P f = true ∧ ∀ (g : G) (w : World) (args : Array Value), Good g st w → RL g vs args → Calls P f args w fun e w' => ∃ (g' : G) (st' : St), Good g' st' w' ∧ GL g st g' ∧ (∀ b0, Step b0 g st w g' st' w') ∧
    match e with
    | .returned x => ∃ r, K r st' ∧ R g' r x
    | .panicked ch => ∃ v u, ch = [{ v, recovered := false }] ∧ X u st' ∧ R g' u v
    | .outgrown => False
abbrev GamOk (P : Program) (Γ : Gam) : Prop := ∀ f vs st K X, Γ f vs st K X → DCalls P f vs st K X

/-! ### Regions -/
def Fin (n : Nat) (t : Tm) (dst : Option Tmp) (v : T) (K : Tm → St → Prop) (s : St) : Prop :=
  match dst with
  | none => K t s
  | some d => match decide (d < n) with
    | true => K (put t d v) s
    | false => False
/-- What an operation's guard says: nothing; the temporary it asks, and what is wanted there. -/
def gdOf (ops : Array Oper) (g : Option (Nat × Bool)) : Option (Option (Nat × Bool)) :=
  match g with
  | none => some none
  | some (j, want) => match (ops[j]?).bind (·.dst) with
    | some d => some (some (d, want))
    | none => none
def dguard (g : Option (Option (Nat × Bool))) (t : Tm) (A B : Tm → Prop) : Prop :=
  match g with
  | some none => A t
  | some (some (d, want)) => match get t d with
    | .bool b => match want with
      | true => bif b then A (put t d (.bool true)) else B (put t d (.bool false))
      | false => bif b then B (put t d (.bool true)) else A (put t d (.bool false))
    | .cst (.tuple _) => B t
    | _ => False
  | none => False
def dops (D : TD) (Γ : Gam) (n : Nat) (ops : Array Oper) : List Oper → Tm → St → (Tm → St → Prop) → (T → Tm → St → Prop) → Prop
  | [], t, s, K, _ => K t s
  | o :: r, t, s, K, X => dguard (gdOf ops o.guard) t (fun t => dop D Γ o.op (ev t) s (fun v s => Fin n t o.dst v (fun t s => dops D Γ n ops r t s K X) s) fun v s => X v t s) fun t => Fin n t o.dst (.cst Go.undef) (fun t s => dops D Γ n ops r t s K X) s

/-! ### Judgement -/
def exOk (g : G) (e : Ex) (e' : Exit) : Prop :=
  match e, e' with
  | .normal, .normal => True
  | .exit i, .exit j => i = j
  | .goto i, .goto j => i = j
  | .ret, .ret => True
  | .pan u, .panic ch => ∃ v, ch = [{ v, recovered := false }] ∧ R g u v
  | _, _ => False
def Lift (n : Nat) (b0 : B0) (Q : Kc) (g : G) (st : St) (w : World) (e : Exit) (a' : Act) (w' : World) : Prop :=
  ∃ (e0 : Ex) (g' : G) (t' : Tm) (st' : St), Q e0 t' st' ∧ exOk g' e0 e ∧ Good g' st' w' ∧ RelT g' n t' a' ∧ Step b0 g st w g' st' w'
/-- Code run from temporaries t and store st comes to Q. -/
def awp (P : Program) (n : Nat) (b0 : B0) (c : Code) (Q : Kc) (t : Tm) (st : St) : Prop :=
  ∀ (g : G) (w : World) (a : Act), Good g st w → RelT g n t a → c.wp P (Lift n b0 Q g st w) a w

section
variable {P : Program} {D : TD} {Γ : Gam} {g g' : G} {st st' : St} {w w' : World} {n : Nat} {b0 : B0} {t : Tm} {a : Act} {o : Oper} {K X : Kn} {Q : Kc}

theorem dok_call (hΓ : GamOk P Γ) (hg : Good g st w) (ht : RelT g n t a) {f : Operand} {args : Array Operand} {ts : Array TypeId} (hop : o.op = .call { callee := .value f, args := args, argTypes := ts }) {fn : FuncId} {vs : List T} (htg : tgt (ev t f) (args.toList.map (ev t)) = some (fn, vs)) (h : Γ fn vs st K X) : DOk P o a g st w K X := by
  have hvs : RL g (args.toList.map (ev t)) (args.map a.eval) := ⟨by simp, fun i u x hu hx => by
    simp only [List.getElem?_map, Array.getElem?_toList, Option.map_eq_some_iff] at hu
    obtain ⟨q, q1, rfl⟩ := hu
    simp only [Array.getElem?_map, q1, Option.map_some, Option.some.injEq] at hx
    subst hx
    exact ht.ev q⟩
  have henter : ∀ xs, enters P fn = true → quiet P (callFunc fn xs) = some (.enter fn xs) := by
    intro xs he
    unfold enters at he
    cases hf : P.funcs[fn]? with
    | none => simp [hf] at he
    | some fn' =>
      simp only [hf, Bool.and_eq_true, Bool.not_eq_true'] at he
      show quiet P (Sem.program _) = _
      simp only [quiet]
      show quiet P (match P.funcs[fn]? with | none => _ | some fn => _) = _
      simp only [hf, he.1, Bool.false_eq_true, if_false]
      have : fn'.body.isNone = false := by cases hb : fn'.body <;> simp_all
      simp [this]
  have hcall : ∃ xs : Array Value, RL g vs xs ∧ (enters P fn = true → (execOp a.eval o).run P w = .ok (.enter fn xs) w) := by
    have hR := ht.ev f
    generalize hfv : ev t f = fv at hR htg
    generalize hef : a.eval f = ef at hR
    unfold tgt at htg
    split at htg
    case h_2 => cases htg
    rename_i f' as bs
    cases hR with
    | fn _ _ _ xs ys k1 k2 k3 k4 =>
      simp only [Option.some.injEq, Prod.mk.injEq] at htg
      obtain ⟨rfl, rfl⟩ := htg
      refine ⟨xs ++ args.map a.eval ++ ys, ⟨by simp [k1, k2], fun i u x hu hx => ?_⟩, fun he => quiet_run ?_ w⟩
      · by_cases h1 : i < as.length
        · rw [List.append_assoc, List.getElem?_append_left h1] at hu
          rw [Array.append_assoc, Array.getElem?_append_left (by omega)] at hx
          exact k3 i u x hu hx
        · rw [List.append_assoc, List.getElem?_append_right (by omega)] at hu
          rw [Array.append_assoc, Array.getElem?_append_right (by omega)] at hx
          by_cases h2 : i - as.length < args.size
          · rw [List.getElem?_append_left (by simpa using h2)] at hu
            rw [Array.getElem?_append_left (by simp; omega)] at hx
            exact hvs.val _ u x hu (by rw [k1]; exact hx)
          · rw [List.getElem?_append_right (by simp; omega)] at hu
            rw [Array.getElem?_append_right (by simp; omega)] at hx
            exact k4 _ u x hu (by simp at hx ⊢; rw [k1]; exact hx)
      · simp only [execOp, hop, resolve, hef, Deferred.ofValue, invoke, quiet_bind, quiet_pure, Option.bind_some]
        exact henter _ he
  obtain ⟨xs, hrl, hrun⟩ := hcall
  obtain ⟨h1, h2⟩ := hΓ _ _ _ _ _ h
  intro K' Q' hK hX
  unfold Oper.wp
  rw [hrun h1]
  refine (h2 g w xs hg hrl).mono fun e w1 ⟨g1, st1, k1, k2, k3, k4⟩ => ?_
  cases e with
  | returned x => obtain ⟨r, r1, r2⟩ := k4; exact hK r st1 x g1 w1 r1 k1 k2 k3 r2
  | panicked ch => obtain ⟨v, u, rfl, u1, u2⟩ := k4; exact hX u st1 v g1 w1 u1 k1 k2 k3 u2
  | outgrown => exact k4.elim
/-- Every operation. -/
theorem dop_sound (hD : TDok P D) (hΓ : GamOk P Γ) (hg : Good g st w) (ht : RelT g n t a) (h : dop D Γ o.op (ev t) st K X) : DOk P o a g st w K X := by
  generalize hop : o.op = op at h
  unfold dop at h
  split at h
  · exact dok_move hg ht (.inl hop) h
  · exact dok_move hg ht (.inr hop) h
  · rename_i c x y
    split at h
    case h_2 => exact h.elim
    rename_i b hb
    have e1 := ht.ev x
    have e2 := ht.ev y
    unfold dpick at h
    split at h
    · rename_i p q hp hq
      refine dok_pick hg ht hop hb (v := .bool (bif b then p else q)) ?_ h
      rw [hp] at e1
      rw [hq] at e2
      cases b
      · exact e2
      · exact e1
    · cases b
      · exact dok_pick hg ht hop hb e2 h
      · exact dok_pick hg ht hop hb e1 h
  · split at h
    case h_2 => exact h.elim
    rename_i ti hti
    split at h
    case h_2 => exact h.elim
    rename_i z hz
    exact dok_alloc hD hg hop hti hz h
  · split at h
    case h_2 => exact h.elim
    rename_i z hz
    exact dok_box hg ht hop hz h
  · exact dok_build hD hg ht hop h
  · exact dok_buildSlice hD hg ht hop h
  · split at h
    case h_2 => exact h.elim
    rename_i ti hti
    exact dok_load hD hg ht hop hti h
  · split at h
    case h_2 => exact h.elim
    rename_i ti hti
    exact dok_store hD hg ht hop hti h
  · rename_i x
    have hR := ht.ev x
    generalize hv : ev t x = v at hR h
    generalize he : a.eval x = ex at hR
    split at h
    case h_5 => exact h.elim
    all_goals
      have hR' := hR
      cases hR
      exact dok_quiet hg (by simp only [execOp, hop, he]; rfl) hR' h
  · rename_i op' T0 x y U
    split at h
    case h_2 => exact h.elim
    rename_i ti hti
    split at h
    · exact dok_binNil hD hg ht hop hti rfl h
    · exact dok_bin hD hg ht hop hti h
  · exact dok_un hg ht hop h
  · exact dok_conv hD hg ht hop h
  · exact dok_makeFunc hg ht hop h
  · rename_i T0 x lo hi mx
    split at h
    case h_2 => exact h.elim
    rename_i ti hti
    exact dok_slice hD hg ht hop hti h
  · exact dok_fieldAddr hD hg ht hop h
  · exact dok_field hD hg ht hop h
  · exact dok_indexAddr hD hg ht hop h
  · exact dok_index hD hg ht hop h
  · split at h
    case h_2 => exact h.elim
    rename_i vs hvs
    split at h
    case h_2 => exact h.elim
    rename_i v hv
    exact dok_extract hg ht hop hvs hv h
  · exact dok_builtin hD hg ht hop h
  · split at h
    case h_2 => exact h.elim
    rename_i fn vs htg
    exact dok_call hΓ hg ht hop htg h
  · exact h.elim
theorem RelT.fin {K : Tm → St → Prop} {v : T} {x : Value} {st0 : St} (ht : RelT g n t a) (hx : R g v x) (h : Fin n t o.dst v K st0) : ∃ t', K t' st0 ∧ RelT g n t' (a.put o.dst x) := by
  unfold Fin at h
  cases hd : o.dst with
  | none => rw [hd] at h; exact ⟨t, h, ht⟩
  | some d =>
    rw [hd] at h
    simp only at h
    split at h
    · rename_i hlt
      exact ⟨_, h, ht.put (of_decide_eq_true hlt) hx⟩
    · exact h.elim
theorem RelT.know (ht : RelT g n t a) {d : Nat} {b : Bool} (h : get t d = .bool b) : RelT g n (Go.Proofs.Ythjikjhddddplaa.put t d (.bool b)) a :=
  ⟨ht.size, ht.defers, fun i => by
    rw [get_put]
    by_cases e : i = d
    · subst e; rw [if_pos rfl, ← h]; exact ht.val i
    · rw [if_neg e]; exact ht.val i⟩
theorem wanted_at {ops : Array Oper} {j d : Nat} {want : Bool} (hd : (ops[j]?).bind (·.dst) = some d) (hgd : o.guard = some (j, want)) : Region.wanted o (yielded ops a.tmps) = (match a.tmps[d]? with | some (.bool b) => (b == want) | _ => false) := by
  unfold Region.wanted yielded
  simp only [hgd, hd, Option.bind_some]
  cases a.tmps[d]? with
  | none => rfl
  | some x => cases x <;> first | rfl | (rename_i b; cases b <;> cases want <;> rfl)
theorem dguard_sound {ops : Array Oper} {A B : Tm → Prop} (ht : RelT g n t a) (h : dguard (gdOf ops o.guard) t A B) : (∃ t', RelT g n t' a ∧ A t' ∧ Region.wanted o (yielded ops a.tmps) = true) ∨ (∃ t', RelT g n t' a ∧ B t' ∧ Region.wanted o (yielded ops a.tmps) = false) := by
  unfold gdOf at h
  cases hgd : o.guard with
  | none =>
    rw [hgd] at h
    exact .inl ⟨t, ht, h, by simp [Region.wanted, hgd]⟩
  | some p =>
    obtain ⟨j, want⟩ := p
    rw [hgd] at h
    simp only at h
    cases hd : (ops[j]?).bind (·.dst) with
    | none => rw [hd] at h; exact h.elim
    | some d =>
      rw [hd] at h
      simp only [dguard] at h
      have hv := ht.val d
      have hw := wanted_at (a := a) hd hgd
      have hk := fun b => ht.know (d := d) (b := b)
      simp only [Array.getD_eq_getD_getElem?] at hv
      cases hx : a.tmps[d]? with
      | none =>
        rw [hx] at hv hw
        simp only [Option.getD_none] at hv
        generalize hgt : get t d = gv at hv h hk
        simp only [Go.undef] at hv
        split at h
        · cases hv
        · exact .inr ⟨t, ht, h, hw⟩
        · exact h.elim
      | some x =>
        rw [hx] at hv hw
        simp only [Option.getD_some] at hv
        generalize hgt : get t d = gv at hv h hk
        split at h
        · rename_i b
          cases hv
          cases want <;> cases b <;> simp only [cond_true, cond_false] at h
          · exact .inl ⟨_, hk false rfl, h, hw⟩
          · exact .inr ⟨_, hk true rfl, h, hw⟩
          · exact .inr ⟨_, hk false rfl, h, hw⟩
          · exact .inl ⟨_, hk true rfl, h, hw⟩
        · cases hv
          exact .inr ⟨t, ht, h, hw⟩
        · exact h.elim
theorem Lift.trans {e : Exit} {a' : Act} {w'' : World} (hs : Step b0 g st w g' st' w') (h : Lift n b0 Q g' st' w' e a' w'') : Lift n b0 Q g st w e a' w'' := by
  obtain ⟨e0, g2, t2, st2, h1, h2, h3, h4, h5⟩ := h
  exact ⟨e0, g2, t2, st2, h1, h2, h3, h4, hs.trans h5⟩
theorem dops_sound (hD : TDok P D) (hΓ : GamOk P Γ) {ops : Array Oper} {Q' : Exit → Act → World → Prop} : ∀ (l : List Oper) (g : G) (st : St) (w : World) (t : Tm) (a : Act), Good g st w → RelT g n t a → dops D Γ n ops l t st (Q .normal) (fun v => Q (.pan v)) →
    (∀ e a' w', Lift n b0 Q g st w e a' w' → Q' e a' w') → wpList P ops Q' l a w
  | [], g, st, w, t, a, hg, ht, h, hq => hq _ _ _ ⟨.normal, g, t, st, h, trivial, hg, ht, Step.refl⟩
  | o :: r, g, st, w, t, a, hg, ht, h, hq => by
    unfold dops at h
    unfold wpList
    rcases dguard_sound ht h with ⟨t1, ht1, h, hw⟩ | ⟨t1, ht1, h, hw⟩
    · rw [if_pos hw]
      refine .inl (dop_sound hD hΓ hg ht1 h _ _ (fun v s' x g' w' hk g1 l1 s1 r1 => ?_) (fun u s' v g' w' hx g1 l1 s1 r1 => hq _ _ _ ⟨.pan u, g', t1, s', hx, ⟨v, rfl, r1⟩, g1, ht1.mono l1.le, s1 b0⟩))
      obtain ⟨t2, k1, k2⟩ := (ht1.mono l1.le).fin r1 hk
      exact dops_sound hD hΓ r g' s' w' t2 _ g1 k2 k1 fun e a' w' hl => hq e a' w' (hl.trans (s1 b0))
    · rw [if_neg (by rw [hw]; simp)]
      obtain ⟨t2, k1, k2⟩ := ht1.fin (o := o) (R.cst Go.undef) h
      exact dops_sound hD hΓ r g st w t2 _ hg k2 k1 hq

theorem awp_mono {c : Code} {Q' : Kc} (h : awp P n b0 c Q t st) (hq : ∀ e t st, Q e t st → Q' e t st) : awp P n b0 c Q' t st :=
  fun g w a hg ht => wp_mono (h g w a hg ht) fun _ _ _ ⟨e0, g', t', st', h1, h2⟩ => ⟨e0, g', t', st', hq _ _ _ h1, h2⟩
theorem awp_region (hD : TDok P D) (hΓ : GamOk P Γ) {id : Nat} {ops : Array Oper} (h : dops D Γ n ops ops.toList t st (Q .normal) (fun v => Q (.pan v))) : awp P n b0 (.region id ops false) Q t st :=
  fun g w a hg ht => by
    have := wp_region_lit (P := P) (id := id) (l := ops.toList) (Q := Lift n b0 Q g st w) (dops_sound hD hΓ (ops := ops.toList.toArray) ops.toList g st w t a hg ht (by simpa using h) fun _ _ _ hl => hl)
    simpa using this
def thenK (D : Tm → St → Prop) (Q : Kc) : Kc
  | .normal, t, s => D t s
  | e, t, s => Q e t s
def blockK (id : Nat) (Q : Kc) : Kc
  | .exit i, t, s => match decide (i = id) with
    | true => Q .normal t s
    | false => Q (.exit i) t s
  | e, t, s => Q e t s
theorem awp_seq {x y : Code} (h : awp P n b0 x (thenK (awp P n b0 y Q) Q) t st) : awp P n b0 (.seq x y) Q t st := by
  intro g w a hg ht
  refine wp_seq (wp_mono (h g w a hg ht) fun e a' w' hl => ?_)
  obtain ⟨e0, g', t', st', h1, h2, h3, h4, h5⟩ := hl
  cases e0 <;> cases e <;> first
    | (exact h2.elim)
    | (exact wp_mono (h1 g' w' a' h3 h4) fun e a'' w'' hl => hl.trans h5)
    | (exact ⟨_, g', t', st', h1, h2, h3, h4, h5⟩)
theorem awp_skip (h : Q .normal t st) : awp P n b0 .skip Q t st := fun g w a hg ht => wp_skip ⟨.normal, g, t, st, h, trivial, hg, ht, Step.refl⟩
theorem awp_ret (h : Q .ret t st) : awp P n b0 .ret Q t st := fun g w a hg ht => wp_ret ⟨.ret, g, t, st, h, trivial, hg, ht, Step.refl⟩
theorem awp_exit {id : Nat} (h : Q (.exit id) t st) : awp P n b0 (.exit id) Q t st := fun g w a hg ht => wp_exit ⟨.exit id, g, t, st, h, rfl, hg, ht, Step.refl⟩
theorem awp_label {id : Nat} (h : Q .normal t st) : awp P n b0 (.label id) Q t st := fun g w a hg ht => wp_label ⟨.normal, g, t, st, h, trivial, hg, ht, Step.refl⟩
theorem awp_block {id : Nat} {c : Code} (h : awp P n b0 c (blockK id Q) t st) : awp P n b0 (.block id c) Q t st := by
  intro g w a hg ht
  refine wp_block (wp_mono (h g w a hg ht) fun e a' w' hl => ?_)
  obtain ⟨e0, g', t', st', h1, h2, h3, h4, h5⟩ := hl
  cases e0 <;> cases e <;> first
    | (exact h2.elim)
    | (exact ⟨_, g', t', st', h1, h2, h3, h4, h5⟩)
    | skip
  rename_i i j
  simp only [exOk] at h2
  subst h2
  simp only [blockK] at h1
  simp only [Exit.inBlock]
  by_cases e : i = id
  · rw [if_pos e]
    rw [decide_eq_true e] at h1
    exact ⟨.normal, g', t', st', h1, trivial, h3, h4, h5⟩
  · rw [if_neg e]
    rw [decide_eq_false e] at h1
    exact ⟨.exit i, g', t', st', h1, rfl, h3, h4, h5⟩
/-- A test: where it is known, it is told. -/
def dcond (t : Tm) (c : Operand) (A B : Tm → Prop) : Prop :=
  match ev t c with
  | .bool b => match c with
    | .tmp d => bif b then A (put t d (.bool true)) else B (put t d (.bool false))
    | _ => bif b then A t else B t
  | .ub => A t ∧ B t
  | _ => False
theorem awp_cond {c : Operand} {x y : Code} (h : dcond t c (fun t => awp P n b0 x Q t st) (fun t => awp P n b0 y Q t st)) : awp P n b0 (.cond c x y) Q t st := by
  intro g w a hg ht
  have hR := ht.ev c
  unfold dcond at h
  generalize hv : ev t c = v at hR h
  generalize he : a.eval c = ec at hR
  split at h
  · rename_i b
    cases hR
    split at h
    · rename_i d
      have hk := ht.know hv
      refine wp_cond_split he (fun e => ?_) (fun e => ?_)
      · subst e; exact h g w a hg hk
      · subst e; exact h g w a hg hk
    · refine wp_cond_split he (fun e => ?_) (fun e => ?_)
      · subst e; exact h g w a hg ht
      · subst e; exact h g w a hg ht
  · cases hR
    exact wp_cond_split he (fun _ => h.1 g w a hg ht) (fun _ => h.2 g w a hg ht)
  · exact h.elim
end
end Go.Proofs.Ythjikjhddddplaa
