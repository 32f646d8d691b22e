import Derived.Test.YtoclmkbjgmgekaaDoorA3
import Derived.Deep.LoopGhost
import Derived.TacticsIn
import Derived.OrdersIn
import Derived.RangeFuncRecord
import Derived.RangeFuncIn
import Derived.OrdersHeld
/-
  The machine over typed values, 11: code. No program in sight.
-/
namespace Go.Proofs.YtoclmkbjgmgekaaDoor
set_option linter.unusedVariables false
set_option linter.unusedSimpArgs false
set_option linter.unusedSectionVars false
open Go.RowKit
variable {P : Program} [Bd P]

inductive Ex where
  | normal
  | exit (id : Nat)
  | goto (l : Nat)
  | ret
  | pan (v : T)
abbrev Kc := Ex → Tm → St → Prop

def enters (P : Program) (f : FuncId) : Bool :=
  (ytab f).isNone && match P.funcs[f]? with
  | some fn => !(fn.name == "runtime.NumGoroutine") && fn.body.isSome
  | none => false
structure RL (g : G P) (us : List T) (args : Array Value) : Prop where
  len : us.length = args.size
  val : ∀ (i : Nat) (u : T) (x : Value), us[i]? = some u → args[i]? = some x → R g u x
/-- Whatever function, whatever depth; in a round of a range over a function, or in none. -/
def WF (ro : Option Nat) : Fence := { Fence.wide with round := ro }
/-- What a round was handed as captured values. -/
def RY {P : Program} (g : G P) (us : List T) (yi : YI) (r : Loop) : Prop := ∀ (i : Nat) (u : T) (d : Tmp), us[i]? = some u → yi.live[i]? = some d → R g u (r.tmps.getD d Go.undef)
/-- A call: of a function, or of a round by its yield. -/
def Atc (P : Program) (f : FuncId) (g : G P) (vs : List T) (w : World) (Z : Ending → World → Prop) : Prop :=
  match ytab f with
  | none => enters P f = true ∧ ∀ args, RL g vs args → Calls P f args w Z
  | some yi => ∃ (xs us : List T), vs = xs ++ us ∧ us.length = yi.live.length ∧ ∀ (args : Array Value) (l : Nat) (r : Loop), RL g xs args → g.fx l r → YRec P f r → RY g us yi r →
      args.size = r.params.size ∧ RoundIn (WF none) 0 P l r.fn ((r.params.zip args).foldl (fun t (p, v) => t.setIfInBounds p v) r.tmps) r.assign r.body w Z
theorem Atc.of {P : Program} {f : FuncId} {g : G P} {vs : List T} {w : World} {Z : Ending → World → Prop} (he : enters P f = true) (h : ∀ args, RL g vs args → Calls P f args w Z) : Atc P f g vs w Z := by
  have h1 := he
  unfold enters at h1
  rw [Bool.and_eq_true] at h1
  have : ytab f = none := by simpa using h1.1
  unfold Atc
  rw [this]
  exact ⟨he, h⟩
theorem Atc.mono {P : Program} {f : FuncId} {g : G P} {vs : List T} {w : World} {Z Z' : Ending → World → Prop} (h : Atc P f g vs w Z) (hz : ∀ e w', Z e w' → Z' e w') : Atc P f g vs w Z' := by
  unfold Atc at h ⊢
  split at h
  · exact ⟨h.1, fun args hr => (h.2 args hr).mono hz⟩
  · obtain ⟨xs, us, h1, h3, h4⟩ := h
    exact ⟨xs, us, h1, h3, fun args l r k1 k2 k3 k4 => ⟨(h4 args l r k1 k2 k3 k4).1, (h4 args l r k1 k2 k3 k4).2.mono hz⟩⟩
/-- Other readings of the same arguments. -/
theorem Atc.re {P : Program} {f : FuncId} {g g1 : G P} {vs vs1 : List T} {w : World} {Z : Ending → World → Prop} (h : Atc P f g1 vs1 w Z) (hl : vs1.length = vs.length) (hv : ∀ (i : Nat) (u1 : T), vs1[i]? = some u1 → ∃ u, vs[i]? = some u ∧ ∀ x, R g u x → R g1 u1 x) (hf : ∀ l r, g.fx l r → g1.fx l r) : Atc P f g vs w Z := by
  unfold Atc at h ⊢
  split at h
  · exact ⟨h.1, fun args hr => h.2 args ⟨hl.trans hr.len, fun i u1 x hu hx => by
      obtain ⟨u, e1, e2⟩ := hv i u1 hu
      exact e2 x (hr.val i u x e1 hx)⟩⟩
  · rename_i yi _
    obtain ⟨xs, us, h1, h3, h4⟩ := h
    subst h1
    obtain ⟨m, h2⟩ : ∃ m, xs.length = m := ⟨_, rfl⟩
    have hlen : vs.length = m + yi.live.length := by rw [← hl]; simp [h2, h3]
    refine ⟨vs.take m, vs.drop m, (List.take_append_drop _ _).symm, by simp; omega, fun args l r k1 k2 k3 k4 => h4 args l r ⟨?_, fun i u1 x hu hx => ?_⟩ (hf _ _ k2) k3 fun i u1 d hu hd => ?_⟩
    · have := k1.len; simp at this; omega
    · obtain ⟨u, e1, e2⟩ := hv i u1 (by rw [List.getElem?_append_left (List.getElem?_eq_some_iff.1 hu).1]; exact hu)
      have hi : i < m := by rw [← h2]; exact (List.getElem?_eq_some_iff.1 hu).1
      exact e2 x (k1.val i u x (by rw [List.getElem?_take_of_lt hi]; exact e1) hx)
    · obtain ⟨u, e1, e2⟩ := hv (m + i) u1 (by rw [List.getElem?_append_right (by omega), h2]; simpa using hu)
      exact e2 _ (k4 i u d (by rw [List.getElem?_drop]; exact e1) hd)
/-- A call from a store: what was said of values stays said. -/
def DCalls (P : Program) (f : FuncId) (vs : List T) (st : St) (K X : Kn) : Prop :=
  ∀ (g : G P) (w : World), Good g st w → Atc P f g vs w fun e w' => ∃ (g' : G P) (st' : St), Good g' st' w' ∧ GL g st g' ∧ (∀ b0, Step b0 g st w g' st' w') ∧
    match e with
    | .returned x => ∃ r, K r st' ∧ R g' r x
    | .panicked ch => ∃ v u, ch = [{ v, recovered := false }] ∧ X u st' ∧ R g' u v
    | .outgrown => False
abbrev GamOk (P : Program) (Γ : Gam) : Prop := ∀ f vs st K X, Γ f vs st K X → DCalls P f vs st K X

/-! ### Regions -/
def Fin (n : Nat) (t : Tm) (dst : Option Tmp) (v : T) (K : Tm → St → Prop) (s : St) : Prop :=
  match dst with
  | none => K t s
  | some d => match decide (d < n) with
    | true => K (put t d v) s
    | false => False
/-- What an operation's guard says: nothing; the temporary it asks, and what is wanted there. -/
def gdOf (ops : Array Oper) (g : Option (Nat × Bool)) : Option (Option (Nat × Bool)) :=
  match g with
  | none => some none
  | some (j, want) => match (ops[j]?).bind (·.dst) with
    | some d => some (some (d, want))
    | none => none
def dguard (g : Option (Option (Nat × Bool))) (t : Tm) (A B : Tm → Prop) : Prop :=
  match g with
  | some none => A t
  | some (some (d, want)) => match get t d with
    | .bool b => match want with
      | true => bif b then A (put t d (.bool true)) else B (put t d (.bool false))
      | false => bif b then B (put t d (.bool true)) else A (put t d (.bool false))
    | .cst (.tuple _) => B t
    | _ => False
  | none => False
def dops (D : TD) (Γ : Gam) (n : Nat) (ops : Array Oper) : List Oper → Tm → St → (Tm → St → Prop) → (T → Tm → St → Prop) → Prop
  | [], t, s, K, _ => K t s
  | o :: r, t, s, K, X => dguard (gdOf ops o.guard) t (fun t => dop D Γ o.op (ev t) s (fun v s => Fin n t o.dst v (fun t s => dops D Γ n ops r t s K X) s) fun v s => X v t s) fun t => Fin n t o.dst (.cst Go.undef) (fun t s => dops D Γ n ops r t s K X) s

/-! ### Judgement -/
def exOk (g : G P) (e : Ex) (e' : Exit) : Prop :=
  match e, e' with
  | .normal, .normal => True
  | .exit i, .exit j => i = j
  | .goto i, .goto j => i = j
  | .ret, .ret => True
  | .pan u, .panic ch => ∃ v, ch = [{ v, recovered := false }] ∧ R g u v
  | _, _ => False
def Lift (n : Nat) (b0 : B0) (Q : Kc) (g : G P) (st : St) (w : World) (e : Exit) (a' : Act) (w' : World) : Prop :=
  ∃ (e0 : Ex) (g' : G P) (t' : Tm) (st' : St), Q e0 t' st' ∧ exOk g' e0 e ∧ Good g' st' w' ∧ RelT g' n t' a' ∧ Step b0 g st w g' st' w'
/-- Code run from temporaries t and store st comes to Q. -/
def awp (P : Program) [Bd P] (n : Nat) (b0 : B0) (c : Code) (Q : Kc) (t : Tm) (st : St) : Prop :=
  ∀ (ro : Option Nat), ((ro = none ∧ Bd.strict P = false) ∨ noRange c = true) → ∀ (g : G P) (w : World) (a : Act), Good g st w → RelT g n t a → c.wpIn (WF ro) 0 P (Lift n b0 Q g st w) a w

/-- What an operation does, in a round or not. -/
def DOkI (P : Program) (o : Oper) (a : Act) (g : G P) (st : St) (w : World) (K X : Kn) : Prop :=
  ∀ (ro : Option Nat) (K' : Act → World → Prop) (Q' : Exit → Act → World → Prop),
    (∀ (v : T) (s' : St) (x : Value) (g' : G P) (w' : World), K v s' → Good g' s' w' → GL g st g' → (∀ b0, Step b0 g st w g' s' w') → R g' v x → K' (a.put o.dst x) w') →
    (∀ (u : T) (s' : St) (v : Value) (g' : G P) (w' : World), X u s' → Good g' s' w' → GL g st g' → (∀ b0, Step b0 g st w g' s' w') → R g' u v → Q' (.panic [{ v, recovered := false }]) a w') → o.wpIn (WF ro) 0 P a w K' Q'

section
variable {P : Program} [Bd P] {D : TD} {Γ : Gam} {g g' : G P} {st st' : St} {w w' : World} {n : Nat} {b0 : B0} {t : Tm} {a : Act} {o : Oper} {K X : Kn} {Q : Kc}

theorem calls_in {ro : Option Nat} {m : Nat} {f : FuncId} {args : Array Value} {w : World} {R : Ending → World → Prop} (h : Calls P f args w R) : CallsIn (WF ro) m P f args w R :=
  callsIn_wide.2 h
theorem op_in {ro : Option Nat} {w : World} {K : Act → World → Prop} {Q : Exit → Act → World → Prop} (hd : ∀ c, o.op ≠ .defer c) (h : o.wp P a w K Q) : o.wpIn (WF ro) 0 P a w K Q := by
  refine ⟨fun _ _ => trivial, ?_⟩
  unfold Oper.wp at h
  have e : o.semAt (WF ro).round a.eval = execOp a.eval o := Oper.semAt_eq _ _ _ hd
  rw [e]
  generalize (execOp a.eval o).run P w = r at h
  cases r with
  | ok x w' =>
    cases x
    case value => exact h
    case skip => exact h
    case defer => exact h
    case enter f args => exact ⟨fun hs => Bool.noConfusion hs, calls_in h⟩
    case row row args =>
      refine ⟨fun hs => Bool.noConfusion hs, fun c cs _ => ?_⟩
      obtain ⟨v, w2, r1, r2⟩ := h c cs
      exact ⟨v, w2, r1, stepsIn_wide.2 r2⟩
    all_goals exact h.elim
  | halt x w' => cases x <;> exact h
theorem DOk.toI (hd : ∀ c, o.op ≠ .defer c) (h : DOk P o a g st w K X) : DOkI P o a g st w K X := fun _ _ _ hK hX => op_in hd (h _ _ hK hX)
theorem dok_call (hΓ : GamOk P Γ) (hg : Good g st w) (ht : RelT g n t a) {f : Operand} {args : Array Operand} {ts : Array TypeId} (hop : o.op = .call { callee := .value f, args := args, argTypes := ts }) {fn : FuncId} {vs : List T} (htg : tgt (ev t f) (args.toList.map (ev t)) = some (fn, vs)) (h : Γ fn vs st K X) : DOkI P o a g st w K X := by
  have hvs : RL g (args.toList.map (ev t)) (args.map a.eval) := ⟨by simp, fun i u x hu hx => by
    simp only [List.getElem?_map, Array.getElem?_toList, Option.map_eq_some_iff] at hu
    obtain ⟨q, q1, rfl⟩ := hu
    simp only [Array.getElem?_map, q1, Option.map_some, Option.some.injEq] at hx
    subst hx
    exact ht.ev q⟩
  have hnd : ∀ c, o.op ≠ .defer c := by intro c e; rw [hop] at e; cases e
  have henter : ∀ xs, enters P fn = true → quiet P (callFunc fn xs) = some (.enter fn xs) := by
    intro xs he
    unfold enters at he
    rw [Bool.and_eq_true] at he
    replace he := he.2
    cases hf : P.funcs[fn]? with
    | none => simp [hf] at he
    | some fn' =>
      simp only [hf, Bool.and_eq_true, Bool.not_eq_true'] at he
      show quiet P (Sem.program _) = _
      simp only [quiet]
      show quiet P (match P.funcs[fn]? with | none => _ | some fn => _) = _
      simp only [hf, he.1, Bool.false_eq_true, if_false]
      have : fn'.body.isNone = false := by cases hb : fn'.body <;> simp_all
      simp [this]
  have hR := ht.ev f
  generalize hfv : ev t f = fv at hR htg
  generalize hef : a.eval f = ef at hR
  unfold tgt at htg
  split at htg
  case h_2 => cases htg
  rename_i f' as bs
  have hx := hΓ _ _ _ _ _ h g w hg
  cases hR with
  | fn _ _ _ xs ys k0 k1 k2 k3 k4 =>
    simp only [Option.some.injEq, Prod.mk.injEq] at htg
    obtain ⟨rfl, rfl⟩ := htg
    have hy : ytab f' = none := by simpa using k0
    unfold Atc at hx
    rw [hy] at hx
    obtain ⟨h1, h2⟩ := hx
    refine DOk.toI hnd ?_
    intro K' Q' hK hX
    unfold Oper.wp
    have hrl : RL g (as ++ args.toList.map (ev t) ++ bs) (xs ++ args.map a.eval ++ ys) := ⟨by simp [k1, k2], fun i u x hu hx => by
      by_cases h1 : i < as.length
      · rw [List.append_assoc, List.getElem?_append_left h1] at hu
        rw [Array.append_assoc, Array.getElem?_append_left (by omega)] at hx
        exact k3 i u x hu hx
      · rw [List.append_assoc, List.getElem?_append_right (by omega)] at hu
        rw [Array.append_assoc, Array.getElem?_append_right (by omega)] at hx
        by_cases h2 : i - as.length < args.size
        · rw [List.getElem?_append_left (by simpa using h2)] at hu
          rw [Array.getElem?_append_left (by simp; omega)] at hx
          exact hvs.val _ u x hu (by rw [k1]; exact hx)
        · rw [List.getElem?_append_right (by simp; omega)] at hu
          rw [Array.getElem?_append_right (by simp; omega)] at hx
          exact k4 _ u x hu (by simp at hx ⊢; rw [k1]; exact hx)⟩
    have hrun : (execOp a.eval o).run P w = .ok (.enter f' (xs ++ args.map a.eval ++ ys)) w := quiet_run (by
      simp only [execOp, hop, resolve, hef, Deferred.ofValue, invoke, quiet_bind, quiet_pure, Option.bind_some]
      exact henter _ h1) w
    rw [hrun]
    refine (h2 _ hrl).mono fun e w1 ⟨g1, st1, k1, k2, k3, k4⟩ => ?_
    cases e with
    | returned x => obtain ⟨r, r1, r2⟩ := k4; exact hK r st1 x g1 w1 r1 k1 k2 k3 r2
    | panicked ch => obtain ⟨v, u, rfl, u1, u2⟩ := k4; exact hX u st1 v g1 w1 u1 k1 k2 k3 u2
    | outgrown => exact k4.elim
  | yl _ us yi l r k1 k2 k3 k4 k5 =>
    simp only [Option.some.injEq, Prod.mk.injEq, List.nil_append] at htg
    obtain ⟨rfl, rfl⟩ := htg
    unfold Atc at hx
    rw [k1] at hx
    obtain ⟨xs, us', e1, e3, hy⟩ := hx
    obtain ⟨rfl, rfl⟩ := List.append_inj' e1 (by rw [k4, e3])
    obtain ⟨s1, s2⟩ := hy _ l r hvs k2 k3 k5
    intro ro K' Q' hK hX
    have hrun : (execOp a.eval o).run P w = .ok (.round l r.fn ((r.params.zip (args.map a.eval)).foldl (fun t (p, v) => t.setIfInBounds p v) r.tmps) r.assign r.body) w := by
      have := run_yield (P := P) (hg.fx l r k2) s1
      simp only [execOp, hop, resolve, hef, Deferred.ofValue, invoke, Sem.run_bind, Sem.run_pure, Result.andThen_ok]
      simpa using this
    refine ⟨fun _ _ => trivial, ?_⟩
    have e : o.semAt (WF ro).round a.eval = execOp a.eval o := Oper.semAt_eq _ _ _ hnd
    rw [e, hrun]
    refine ⟨fun hs => Bool.noConfusion hs, s2.mono fun e w1 ⟨g1, st1, q1, q2, q3, q4⟩ => ?_⟩
    cases e with
    | returned x => obtain ⟨r, r1, r2⟩ := q4; exact hK r st1 x g1 w1 r1 q1 q2 q3 r2
    | panicked ch => obtain ⟨v, u, rfl, u1, u2⟩ := q4; exact hX u st1 v g1 w1 u1 q1 q2 q3 u2
    | outgrown => exact q4.elim
theorem dop_no_defer {K X : Kn} (h : dop D Γ o.op (ev t) st K X) : ∀ c, o.op ≠ .defer c := by
  intro c e
  rw [e] at h
  exact h.elim
/-- Every operation. -/
theorem dop_sound (hD : TDok P D) (hΓ : GamOk P Γ) (hg : Good g st w) (ht : RelT g n t a) (h : dop D Γ o.op (ev t) st K X) : DOkI P o a g st w K X := by
  have hnd := dop_no_defer h
  generalize hop : o.op = op at h
  unfold dop at h
  split at h
  · exact (dok_move hg ht (.inl hop) h).toI hnd
  · exact (dok_move hg ht (.inr hop) h).toI hnd
  · rename_i c x y
    split at h
    case h_2 => exact h.elim
    rename_i b hb
    have e1 := ht.ev x
    have e2 := ht.ev y
    unfold dpick at h
    split at h
    · rename_i p q hp hq
      refine DOk.toI hnd (dok_pick hg ht hop hb (v := .bool (bif b then p else q)) ?_ h)
      rw [hp] at e1
      rw [hq] at e2
      cases b
      · exact e2
      · exact e1
    · cases b
      · exact (dok_pick hg ht hop hb e2 h).toI hnd
      · exact (dok_pick hg ht hop hb e1 h).toI hnd
  · split at h
    case h_2 => exact h.elim
    rename_i ti hti
    split at h
    case h_2 => exact h.elim
    rename_i z hz
    exact (dok_alloc hD hg hop hti hz h).toI hnd
  · split at h
    case h_2 => exact h.elim
    rename_i z hz
    exact (dok_box hg ht hop hz h).toI hnd
  · exact (dok_make hD hg ht hop h).toI hnd
  · split at h
    case h_2 => exact h.elim
    exact (dok_makeMap hg hop h).toI hnd
  · exact (dok_lookup hD hg ht hop h).toI hnd
  · exact (dok_mapUpdate hD hg ht (.inl hop) h).toI hnd
  · exact (dok_mapUpdate hD hg ht (.inr hop) h).toI hnd
  · exact (dok_build hD hg ht hop h).toI hnd
  · exact (dok_buildSlice hD hg ht hop h).toI hnd
  · split at h
    case h_2 => exact h.elim
    rename_i ti hti
    exact (dok_load hD hg ht hop hti h).toI hnd
  · split at h
    case h_2 => exact h.elim
    rename_i ti hti
    exact (dok_store hD hg ht hop hti h).toI hnd
  · rename_i x
    have hR := ht.ev x
    generalize hv : ev t x = v at hR h
    generalize he : a.eval x = ex at hR
    split at h
    case h_5 => exact h.elim
    all_goals
      have hR' := hR
      cases hR <;> exact (dok_quiet hg (by simp only [execOp, hop, he]; rfl) hR' h).toI hnd
  · rename_i op' T0 x y U
    split at h
    case h_2 => exact h.elim
    rename_i ti hti
    split at h
    · exact (dok_binNil hD hg ht hop hti rfl h).toI hnd
    · exact (dok_binIf hD hg ht hop hti rfl h).toI hnd
    · exact (dok_bin hD hg ht hop hti h).toI hnd
  · exact (dok_un hg ht hop h).toI hnd
  · exact (dok_conv hD hg ht hop h).toI hnd
  · split at h
    case h_2 => exact h.elim
    rename_i ti hti
    split at h
    case h_2 => exact h.elim
    rename_i hc
    exact (dok_makeIf hD hg ht hop hti hc h).toI hnd
  · split at h
    case h_2 => exact h.elim
    rename_i t0 v hv
    exact (dok_panic hg ht hop hv h).toI hnd
  · split at h
    · rename_i hy; exact (dok_makeFunc hg ht hy hop h).toI hnd
    · exact h.elim
  · rename_i T0 x lo hi mx
    split at h
    case h_2 => exact h.elim
    rename_i ti hti
    exact (dok_slice hD hg ht hop hti h).toI hnd
  · exact (dok_fieldAddr hD hg ht hop h).toI hnd
  · exact (dok_field hD hg ht hop h).toI hnd
  · exact (dok_indexAddr hD hg ht hop h).toI hnd
  · exact (dok_index hD hg ht hop h).toI hnd
  · split at h
    case h_2 => exact h.elim
    rename_i vs hvs
    split at h
    case h_2 => exact h.elim
    rename_i v hv
    exact (dok_extract hg ht hop hvs hv h).toI hnd
  · exact (dok_builtin hD hg ht hop h).toI hnd
  · split at h
    case h_2 => exact h.elim
    rename_i fn vs htg
    exact dok_call hΓ hg ht hop htg h
  · exact h.elim
theorem RelT.fin {K : Tm → St → Prop} {v : T} {x : Value} {st0 : St} (ht : RelT g n t a) (hx : R g v x) (h : Fin n t o.dst v K st0) : ∃ t', K t' st0 ∧ RelT g n t' (a.put o.dst x) := by
  unfold Fin at h
  cases hd : o.dst with
  | none => rw [hd] at h; exact ⟨t, h, ht⟩
  | some d =>
    rw [hd] at h
    simp only at h
    split at h
    · rename_i hlt
      exact ⟨_, h, ht.put (of_decide_eq_true hlt) hx⟩
    · exact h.elim
theorem RelT.know (ht : RelT g n t a) {d : Nat} {b : Bool} (h : get t d = .bool b) : RelT g n (Go.Proofs.YtoclmkbjgmgekaaDoor.put t d (.bool b)) a :=
  ⟨ht.size, ht.defers, ht.once, fun i => by
    rw [get_put]
    by_cases e : i = d
    · subst e; rw [if_pos rfl, ← h]; exact ht.val i
    · rw [if_neg e]; exact ht.val i⟩
theorem wanted_at {ops : Array Oper} {j d : Nat} {want : Bool} (hd : (ops[j]?).bind (·.dst) = some d) (hgd : o.guard = some (j, want)) : Region.wanted o (yielded ops a.tmps) = (match a.tmps[d]? with | some (.bool b) => (b == want) | _ => false) := by
  unfold Region.wanted yielded
  simp only [hgd, hd, Option.bind_some]
  cases a.tmps[d]? with
  | none => rfl
  | some x => cases x <;> first | rfl | (rename_i b; cases b <;> cases want <;> rfl)
theorem dguard_sound {ops : Array Oper} {A B : Tm → Prop} (ht : RelT g n t a) (h : dguard (gdOf ops o.guard) t A B) : (∃ t', RelT g n t' a ∧ A t' ∧ Region.wanted o (yielded ops a.tmps) = true) ∨ (∃ t', RelT g n t' a ∧ B t' ∧ Region.wanted o (yielded ops a.tmps) = false) := by
  unfold gdOf at h
  cases hgd : o.guard with
  | none =>
    rw [hgd] at h
    exact .inl ⟨t, ht, h, by simp [Region.wanted, hgd]⟩
  | some p =>
    obtain ⟨j, want⟩ := p
    rw [hgd] at h
    simp only at h
    cases hd : (ops[j]?).bind (·.dst) with
    | none => rw [hd] at h; exact h.elim
    | some d =>
      rw [hd] at h
      simp only [dguard] at h
      have hv := ht.val d
      have hw := wanted_at (a := a) hd hgd
      have hk := fun b => ht.know (d := d) (b := b)
      simp only [Array.getD_eq_getD_getElem?] at hv
      cases hx : a.tmps[d]? with
      | none =>
        rw [hx] at hv hw
        simp only [Option.getD_none] at hv
        generalize hgt : get t d = gv at hv h hk
        simp only [Go.undef] at hv
        split at h
        · cases hv
        · exact .inr ⟨t, ht, h, hw⟩
        · exact h.elim
      | some x =>
        rw [hx] at hv hw
        simp only [Option.getD_some] at hv
        generalize hgt : get t d = gv at hv h hk
        split at h
        · rename_i b
          cases hv
          cases want <;> cases b <;> simp only [cond_true, cond_false] at h
          · exact .inl ⟨_, hk false rfl, h, hw⟩
          · exact .inr ⟨_, hk true rfl, h, hw⟩
          · exact .inr ⟨_, hk false rfl, h, hw⟩
          · exact .inl ⟨_, hk true rfl, h, hw⟩
        · cases hv
          exact .inr ⟨t, ht, h, hw⟩
        · exact h.elim
theorem Lift.trans {e : Exit} {a' : Act} {w'' : World} (hs : Step b0 g st w g' st' w') (h : Lift n b0 Q g' st' w' e a' w'') : Lift n b0 Q g st w e a' w'' := by
  obtain ⟨e0, g2, t2, st2, h1, h2, h3, h4, h5⟩ := h
  exact ⟨e0, g2, t2, st2, h1, h2, h3, h4, hs.trans h5⟩
theorem dops_sound (hD : TDok P D) (hΓ : GamOk P Γ) {ro : Option Nat} {ops : Array Oper} {Q' : Exit → Act → World → Prop} : ∀ (l : List Oper) (g : G P) (st : St) (w : World) (t : Tm) (a : Act), Good g st w → RelT g n t a → dops D Γ n ops l t st (Q .normal) (fun v => Q (.pan v)) →
    (∀ e a' w', Lift n b0 Q g st w e a' w' → Q' e a' w') → wpListIn (WF ro) 0 P ops Q' l a w
  | [], g, st, w, t, a, hg, ht, h, hq => hq _ _ _ ⟨.normal, g, t, st, h, trivial, hg, ht, Step.refl⟩
  | o :: r, g, st, w, t, a, hg, ht, h, hq => by
    unfold dops at h
    unfold wpListIn
    rcases dguard_sound ht h with ⟨t1, ht1, h, hw⟩ | ⟨t1, ht1, h, hw⟩
    · rw [if_pos hw]
      refine dop_sound hD hΓ hg ht1 h ro _ _ (fun v s' x g' w' hk g1 l1 s1 r1 => ?_) (fun u s' v g' w' hx g1 l1 s1 r1 => hq _ _ _ ⟨.pan u, g', t1, s', hx, ⟨v, rfl, r1⟩, g1, ht1.mono l1.le, s1 b0⟩)
      obtain ⟨t2, k1, k2⟩ := (ht1.mono l1.le).fin r1 hk
      exact dops_sound hD hΓ r g' s' w' t2 _ g1 k2 k1 fun e a' w' hl => hq e a' w' (hl.trans (s1 b0))
    · rw [if_neg (by rw [hw]; simp)]
      obtain ⟨t2, k1, k2⟩ := ht1.fin (o := o) (R.cst Go.undef) h
      exact ⟨fun _ _ => trivial, dops_sound hD hΓ r g st w t2 _ hg k2 k1 hq⟩

theorem awp_mono {c : Code} {Q' : Kc} (h : awp P n b0 c Q t st) (hq : ∀ e t st, Q e t st → Q' e t st) : awp P n b0 c Q' t st :=
  fun ro hro g w a hg ht => wpIn_mono (h ro hro g w a hg ht) fun _ _ _ ⟨e0, g', t', st', h1, h2⟩ => ⟨e0, g', t', st', hq _ _ _ h1, h2⟩
theorem awp_region (hD : TDok P D) (hΓ : GamOk P Γ) {id : Nat} {ops : Array Oper} (h : dops D Γ n ops ops.toList t st (Q .normal) (fun v => Q (.pan v))) : awp P n b0 (.region id ops false) Q t st :=
  fun ro hro g w a hg ht => by
    have := wpIn_region_lit (F := WF ro) (n := 0) (P := P) (id := id) (l := ops.toList) (Q := Lift n b0 Q g st w) (dops_sound hD hΓ (ops := ops.toList.toArray) ops.toList g st w t a hg ht (by simpa using h) fun _ _ _ hl => hl)
    simpa using this
def thenK (D : Tm → St → Prop) (Q : Kc) : Kc
  | .normal, t, s => D t s
  | e, t, s => Q e t s
def blockK (id : Nat) (Q : Kc) : Kc
  | .exit i, t, s => match decide (i = id) with
    | true => Q .normal t s
    | false => Q (.exit i) t s
  | e, t, s => Q e t s
theorem awp_seq {x y : Code} (h : awp P n b0 x (thenK (awp P n b0 y Q) Q) t st) : awp P n b0 (.seq x y) Q t st := by
  intro ro hro g w a hg ht
  refine wpIn_seq (wpIn_mono (h ro (hro.imp id fun e => (by simp only [noRange, Bool.and_eq_true] at e; exact e.1)) g w a hg ht) fun e a' w' hl => ?_)
  obtain ⟨e0, g', t', st', h1, h2, h3, h4, h5⟩ := hl
  cases e0 <;> cases e <;> first
    | (exact h2.elim)
    | (exact wpIn_mono (h1 ro (hro.imp id fun e => (by simp only [noRange, Bool.and_eq_true] at e; exact e.2)) g' w' a' h3 h4) fun e a'' w'' hl => hl.trans h5)
    | (exact ⟨_, g', t', st', h1, h2, h3, h4, h5⟩)
theorem awp_skip (h : Q .normal t st) : awp P n b0 .skip Q t st := fun ro hro g w a hg ht => wpIn_skip ⟨.normal, g, t, st, h, trivial, hg, ht, Step.refl⟩
theorem awp_ret (h : Q .ret t st) : awp P n b0 .ret Q t st := fun ro hro g w a hg ht => wpIn_ret ⟨.ret, g, t, st, h, trivial, hg, ht, Step.refl⟩
theorem awp_exit {id : Nat} (h : Q (.exit id) t st) : awp P n b0 (.exit id) Q t st := fun ro hro g w a hg ht => wpIn_exit ⟨.exit id, g, t, st, h, rfl, hg, ht, Step.refl⟩
theorem awp_label {id : Nat} (h : Q .normal t st) : awp P n b0 (.label id) Q t st := fun ro hro g w a hg ht => wpIn_label ⟨.normal, g, t, st, h, trivial, hg, ht, Step.refl⟩
theorem awp_block {id : Nat} {c : Code} (h : awp P n b0 c (blockK id Q) t st) : awp P n b0 (.block id c) Q t st := by
  intro ro hro g w a hg ht
  refine wpIn_block (wpIn_mono (h ro hro g w a hg ht) fun e a' w' hl => ?_)
  obtain ⟨e0, g', t', st', h1, h2, h3, h4, h5⟩ := hl
  cases e0 <;> cases e <;> first
    | (exact h2.elim)
    | (exact ⟨_, g', t', st', h1, h2, h3, h4, h5⟩)
    | skip
  rename_i i j
  simp only [exOk] at h2
  subst h2
  simp only [blockK] at h1
  simp only [Exit.inBlock]
  by_cases e : i = id
  · rw [if_pos e]
    rw [decide_eq_true e] at h1
    exact ⟨.normal, g', t', st', h1, trivial, h3, h4, h5⟩
  · rw [if_neg e]
    rw [decide_eq_false e] at h1
    exact ⟨.exit i, g', t', st', h1, rfl, h3, h4, h5⟩
/-- A test: where it is known, it is told. -/
def dcond (t : Tm) (c : Operand) (A B : Tm → Prop) : Prop :=
  match ev t c with
  | .bool b => match c with
    | .tmp d => bif b then A (put t d (.bool true)) else B (put t d (.bool false))
    | _ => bif b then A t else B t
  | .ub => A t ∧ B t
  | _ => False
theorem awp_cond {c : Operand} {x y : Code} (h : dcond t c (fun t => awp P n b0 x Q t st) (fun t => awp P n b0 y Q t st)) : awp P n b0 (.cond c x y) Q t st := by
  intro ro hro g w a hg ht
  have hA : (ro = none ∧ Bd.strict P = false) ∨ noRange x = true := hro.imp id fun e => (by simp only [noRange, Bool.and_eq_true] at e; exact e.1)
  have hB : (ro = none ∧ Bd.strict P = false) ∨ noRange y = true := hro.imp id fun e => (by simp only [noRange, Bool.and_eq_true] at e; exact e.2)
  have hR := ht.ev c
  unfold dcond at h
  generalize hv : ev t c = v at hR h
  generalize he : a.eval c = ec at hR
  split at h
  · rename_i b
    cases hR
    split at h
    · rename_i d
      have hk := ht.know hv
      refine wpIn_cond_split he (fun e => ?_) (fun e => ?_)
      · subst e; exact h ro hA g w a hg hk
      · subst e; exact h ro hB g w a hg hk
    · refine wpIn_cond_split he (fun e => ?_) (fun e => ?_)
      · subst e; exact h ro hA g w a hg ht
      · subst e; exact h ro hB g w a hg ht
  · cases hR
    exact wpIn_cond_split he (fun _ => h.1 ro hA g w a hg ht) (fun _ => h.2 ro hB g w a hg ht)
  · exact h.elim
end
end Go.Proofs.YtoclmkbjgmgekaaDoor

/-
  The machine over typed values, 16: each operation has one outcome. No program in sight.
-/
namespace Go.Proofs.YtoclmkbjgmgekaaDoor
set_option linter.unusedVariables false
set_option linter.unusedSimpArgs false
set_option linter.unusedSectionVars false
open Go.RowKit

def isApp : Builtin → Bool
  | .append => true
  | .clear => true
  | _ => false
/-- May an operation write? -/
def wrOp (mu : FuncId → Bool) (op : Op) (ρ : Operand → T) : Bool :=
  match op with
  | .store .. => true
  | .mapUpdate .. => true
  | .insert .. => true
  | .call { callee := .builtin b, args := _, argTypes := _ } => isApp b
  | .call { callee := .value f, args := args, argTypes := _ } => match tgt (ρ f) (args.toList.map ρ) with
    | some (g, _) => mu g
    | none => false
  | _ => false
/-- One outcome, whoever asks. -/
def Det (w : Bool) (s : St) (F : (T → St → Prop) → Prop) (K : Kn) : Prop :=
  ∃ v s', K v s' ∧ (∀ K' : Kn, K' v s' → F K') ∧ (s' = s ∨ (∃ o, s' = s ++ [some o]) ∨ (w = true ∧ s'.length = s.length))
abbrev GamDet (mu : FuncId → Bool) (Γ : Gam) : Prop := ∀ f vs s K, Γ f vs s K (fun _ _ => False) → Det (mu f) s (fun K => Γ f vs s K fun _ _ => False) K
theorem Det.same {w : Bool} {s : St} {F : (T → St → Prop) → Prop} {K : Kn} {v : T} (h : K v s) (hF : ∀ K' : Kn, K' v s → F K') : Det w s F K := ⟨v, s, h, hF, .inl rfl⟩
theorem Det.new {w : Bool} {s : St} {F : (T → St → Prop) → Prop} {K : Kn} {v : T} {o : Ob} (h : K v (s ++ [some o])) (hF : ∀ K' : Kn, K' v (s ++ [some o]) → F K') : Det w s F K := ⟨v, _, h, hF, .inr (.inl ⟨o, rfl⟩)⟩
theorem Det.upd {s : St} {F : (T → St → Prop) → Prop} {K : Kn} {v : T} {k : Nat} {o : Ob} (h : K v (s.set k (some o))) (hF : ∀ K' : Kn, K' v (s.set k (some o)) → F K') : Det true s F K := ⟨v, _, h, hF, .inr (.inr ⟨rfl, by simp⟩)⟩
/-- One outcome of a value alone. -/
def Det1 (F : (T → Prop) → Prop) (K : T → Prop) : Prop := ∃ v, K v ∧ ∀ K' : T → Prop, K' v → F K'
theorem Det1.mk {F : (T → Prop) → Prop} {K : T → Prop} {v : T} (h : K v) (hF : ∀ K' : T → Prop, K' v → F K') : Det1 F K := ⟨v, h, hF⟩
theorem Det1.lift {w : Bool} {s : St} {F : (T → Prop) → Prop} {K : Kn} (h : Det1 F fun v => K v s) : Det w s (fun K => F fun v => K v s) K := by
  obtain ⟨v, h1, h2⟩ := h
  exact Det.same h1 fun K' h' => h2 (fun v => K' v s) h'

section
variable {D : TD} {K : T → Prop}
theorem det_subRow {agg : Bool} {size : Nat} {cs : List T} {off : Nat} (h : subRow agg size cs off K) : Det1 (subRow agg size cs off) K := by
  unfold subRow at h
  cases agg with
  | true =>
    simp only at h
    split at h
    · rename_i hd
      exact .mk h fun K' h' => by simp only [subRow, hd]; exact h'
    · exact h.elim
  | false =>
    simp only at h
    split at h
    · rename_i u hu
      exact .mk h fun K' h' => by simp only [subRow, hu]; exact h'
    · exact h.elim
theorem det_load {ti : TI} {s : St} {a : T} (h : dload ti s a K) : Det1 (dload ti s a) K := by
  unfold dload at h
  split at h
  · split at h
    · rename_i cs hr
      split at h
      case h_2 => exact h.elim
      rename_i hm
      obtain ⟨v, h1, h2⟩ := det_subRow h
      exact .mk h1 fun K' h' => by simp only [dload, hr, hm]; exact h2 K' h'
    · exact h.elim
  · obtain ⟨v, h1, h2⟩ := det_subRow h
    exact .mk h1 fun K' h' => h2 K' h'
  · split at h
    · rename_i l hl
      obtain ⟨x, hx, h⟩ := h
      obtain ⟨v, h1, h2⟩ := det_subRow h
      exact .mk h1 fun K' h' => by simp only [dload, hl]; exact ⟨x, hx, h2 K' h'⟩
    · exact h.elim
  · exact h.elim
theorem det_asInt {v : T} {K : Int → Prop} (h : asInt v K) : ∃ n, K n ∧ ∀ K' : Int → Prop, K' n → asInt v K' := by
  obtain ⟨k, n, rfl, h⟩ := asInt_some h
  exact ⟨n, h, fun _ h => h⟩
theorem det_optInt {v : Option T} {d : Int} {K : Int → Prop} (h : optInt v d K) : ∃ n, K n ∧ ∀ K' : Int → Prop, K' n → optInt v d K' := by
  cases v with
  | none => exact ⟨d, h, fun _ h => h⟩
  | some v => exact det_asInt h
theorem det_dslice {e0 : El} {s : St} {x : T} {lo hi mx : Option T} (h : dslice e0 s x lo hi mx K) : Det1 (dslice e0 s x lo hi mx) K := by
  unfold dslice at h
  split at h
  · split at h
    · split at h
      · split at h
        case isFalse => exact h.elim
        rename_i he
        obtain ⟨m, h, k1⟩ := det_asInt h
        obtain ⟨l, h, k2⟩ := det_optInt h
        obtain ⟨r, h, k3⟩ := det_asInt h
        obtain ⟨q0, q1, q2, q3, h⟩ := h
        exact .mk h fun K' h' => by simp only [dslice, he, if_true]; exact k1 _ (k2 _ (k3 _ ⟨q0, q1, q2, q3, h'⟩))
      · obtain ⟨m, h, k1⟩ := det_asInt h
        obtain ⟨l, h, k2⟩ := det_optInt h
        obtain ⟨r, h, k3⟩ := det_asInt h
        obtain ⟨q0, q1, q2, h⟩ := h
        exact .mk h fun K' h' => k1 _ (k2 _ (k3 _ ⟨q0, q1, q2, h'⟩))
      · exact h.elim
    · exact h.elim
  · split at h
    · split at h
      case isFalse => exact h.elim
      rename_i full e1 xs he
      split at h
      · obtain ⟨r, h, k3⟩ := det_asInt h
        obtain ⟨l, h, k2⟩ := det_optInt h
        obtain ⟨q0, q1, q2, h⟩ := h
        split at h
        · cases hd : decide (r = (xs.length : Int))
          · rw [hd, cond_false] at h
            exact .mk h fun K' h' => by simp only [dslice, he, if_true]; exact k3 _ (k2 _ ⟨q0, q1, q2, by rw [hd, cond_false]; exact h'⟩)
          · rw [hd, cond_true] at h
            exact .mk h fun K' h' => by simp only [dslice, he, if_true]; exact k3 _ (k2 _ ⟨q0, q1, q2, by rw [hd, cond_true]; exact h'⟩)
        · exact .mk h fun K' h' => by simp only [dslice, he, if_true]; exact k3 _ (k2 _ ⟨q0, q1, q2, h'⟩)
      · obtain ⟨l, h, k2⟩ := det_optInt h
        obtain ⟨q0, q1, h⟩ := h
        exact .mk h fun K' h' => by simp only [dslice, he, if_true]; exact k2 _ ⟨q0, q1, h'⟩
    · obtain ⟨r, h, k3⟩ := det_optInt h
      obtain ⟨l, h, k2⟩ := det_optInt h
      obtain ⟨q0, q1, h⟩ := h
      exact .mk h fun K' h' => k3 _ (k2 _ ⟨q0, q1, h'⟩)
    · split at h
      case isFalse => exact h.elim
      rename_i he
      split at h
      · rename_i xs hl
        obtain ⟨r, h, k3⟩ := det_optInt h
        obtain ⟨l, h, k2⟩ := det_optInt h
        obtain ⟨q0, q1, q2, h⟩ := h
        exact .mk h fun K' h' => by simp only [dslice, he, if_true, hl]; exact k3 _ (k2 _ ⟨q0, q1, q2, h'⟩)
      · exact h.elim
    · split at h
      case isFalse => exact h.elim
      rename_i he
      split at h
      case h_2 => exact h.elim
      rename_i xs hl
      obtain ⟨r, h, k3⟩ := det_optInt h
      obtain ⟨l, h, k2⟩ := det_optInt h
      obtain ⟨q0, q1, q2, h⟩ := h
      exact .mk h fun K' h' => by simp only [dslice, he, if_true, hl]; exact k3 _ (k2 _ ⟨q0, q1, q2, h'⟩)
    · exact h.elim
theorem det_dsl {ti : TI} {t : TypeId} {s : St} {x : T} {lo hi mx : Option T} (h : dsl D ti t s x lo hi mx K) : Det1 (dsl D ti t s x lo hi mx) K := by
  unfold dsl at h
  split at h
  · rename_i hs
    split at h
    · rename_i b
      obtain ⟨r, h, k3⟩ := det_optInt h
      obtain ⟨l, h, k2⟩ := det_optInt h
      obtain ⟨q0, q1, q2, h⟩ := h
      exact .mk h fun K' h' => by simp only [dsl, hs]; exact k3 _ (k2 _ ⟨q0, q1, q2, h'⟩)
    · exact h.elim
  · rename_i e hs
    split at h
    · rename_i e0 he
      obtain ⟨v, h1, h2⟩ := det_dslice h
      exact .mk h1 fun K' h' => by simp only [dsl, hs, he]; exact h2 K' h'
    · exact h.elim
  · rename_i n e hs
    split at h
    case h_2 => exact h.elim
    rename_i ht
    exact .mk h fun K' h' => by simp only [dsl, hs, ht]; exact h'
  · exact h.elim
theorem det_nil {op : BinOp} {n : Nat} (h : dnil op n K) : Det1 (dnil op n) K := by
  unfold dnil at h
  split at h
  · by_cases e : n = 0
    · simp only [e, decide_true, cond_true] at h
      exact .mk h fun K' h' => by simp only [dnil, e, decide_true, cond_true]; exact h'
    · simp only [e, decide_false, cond_false] at h
      exact .mk h fun K' h' => by simp only [dnil, e, decide_false, cond_false]; exact h'
  · by_cases e : n = 0
    · simp only [e, decide_true, cond_true] at h
      exact .mk h fun K' h' => by simp only [dnil, e, decide_true, cond_true]; exact h'
    · simp only [e, decide_false, cond_false] at h
      exact .mk h fun K' h' => by simp only [dnil, e, decide_false, cond_false]; exact h'
  · exact h.elim
theorem det_binNil {op : BinOp} {ti : TI} {s : St} {x : T} (h : dbinNil op ti s x K) : Det1 (dbinNil op ti s x) K := by
  unfold dbinNil at h
  split at h
  case h_2 => exact h.elim
  rename_i e hs
  split at h
  · obtain ⟨v, h1, h2⟩ := det_nil h
    exact .mk h1 fun K' h' => by simp only [dbinNil, hs]; exact h2 K' h'
  · obtain ⟨v, h1, h2⟩ := det_nil h
    exact .mk h1 fun K' h' => by simp only [dbinNil, hs]; exact h2 K' h'
  · split at h
    · rename_i l hl
      obtain ⟨v, h1, h2⟩ := det_nil h
      exact .mk h1 fun K' h' => by simp only [dbinNil, hs, hl]; exact h2 K' h'
    · exact h.elim
  · exact h.elim
theorem det_bin {op : BinOp} {ti : TI} {x y : T} (h : dbin op ti x y K) : Det1 (dbin op ti x y) K := by
  unfold dbin at h
  split at h
  · rename_i k p k' q
    split at h
    · exact .mk h.2 fun K' h' => ⟨h.1, h'⟩
    · exact .mk h.2 fun K' h' => ⟨h.1, h'⟩
    · rename_i hs1 hs2
      split at h
      case h_2 => exact h.elim
      rename_i hk
      cases op
      case shl => exact absurd rfl hs1
      case shr => exact absurd rfl hs2
      case quo => exact .mk h.2 fun K' h' => by simp only [dbin, hk]; exact ⟨h.1, h'⟩
      case rem => exact .mk h.2 fun K' h' => by simp only [dbin, hk]; exact ⟨h.1, h'⟩
      all_goals exact .mk h fun K' h' => by simp only [dbin, hk]; exact h'
  · split at h
    · rename_i hs; exact .mk h fun K' h' => by simp only [dbin, hs]; exact h'
    · rename_i hs; exact .mk h fun K' h' => by simp only [dbin, hs]; exact h'
    · exact h.elim
  · split at h
    · exact .mk h.2 fun K' h' => ⟨h.1, h'⟩
    · exact .mk h fun K' h' => h'
    · exact .mk h fun K' h' => h'
    · exact .mk h fun K' h' => h'
    · exact .mk h fun K' h' => h'
    · exact .mk h fun K' h' => h'
    · exact .mk h fun K' h' => h'
    · exact h.elim
  · split at h
    · rename_i n b hn hb
      split at h
      · rename_i hl; exact .mk h fun K' h' => by simp only [dbin, hn, hb, hl]; exact h'
      · exact h.elim
    · rename_i n b hn hb
      split at h
      · rename_i hl; exact .mk h fun K' h' => by simp only [dbin, hn, hb, hl]; exact h'
      · exact h.elim
    · exact h.elim
  · exact h.elim
theorem det_un {op : UnOp} {x : T} (h : dun op x K) : Det1 (dun op x) K := by
  unfold dun at h
  split at h
  · exact .mk h fun K' h' => h'
  · exact .mk h fun K' h' => h'
  · exact .mk h fun K' h' => h'
  · exact h.elim
theorem det_fieldAddr {t : TypeId} {x : T} {f : Nat} (h : dfieldAddr D t x f K) : Det1 (dfieldAddr D t x f) K := by
  unfold dfieldAddr at h
  split at h
  case h_2 => exact h.elim
  rename_i off te hf
  split at h
  · exact h.elim
  rename_i m hm
  split at h
  · exact .mk h fun K' h' => by simp only [dfieldAddr, hf, hm]; exact h'
  · exact .mk h fun K' h' => by simp only [dfieldAddr, hf, hm]; exact h'
  · exact .mk h fun K' h' => by simp only [dfieldAddr, hf, hm]; exact h'
  · exact h.elim
theorem det_field {t : TypeId} {x : T} {f : Nat} (h : dfield D t x f K) : Det1 (dfield D t x f) K := by
  unfold dfield at h
  split at h
  case h_2 => exact h.elim
  rename_i off te hf
  split at h
  · obtain ⟨v, h1, h2⟩ := det_subRow h
    exact .mk h1 fun K' h' => by simp only [dfield, hf]; exact h2 K' h'
  · exact h.elim
theorem det_indexAddr {t : TypeId} {s : St} {x i : T} (h : dindexAddr D t s x i K) : Det1 (dindexAddr D t s x i) K := by
  unfold dindexAddr at h
  split at h
  case h_2 => exact h.elim
  split at h
  · split at h
    case isFalse => exact h.elim
    rename_i hk
    obtain ⟨h0, u, hu, h⟩ := h
    exact .mk h fun K' h' => by simp only [dindexAddr, hk, if_true]; exact ⟨h0, u, hu, h'⟩
  · split at h
    case isFalse => exact h.elim
    rename_i hk
    split at h
    case h_2 => exact h.elim
    rename_i l hl
    exact .mk h.2.2 fun K' h' => by simp only [dindexAddr, hk, if_true, hl]; exact ⟨h.1, h.2.1, h'⟩
  · split at h
    case isFalse => exact h.elim
    rename_i hk
    split at h
    case h_2 => exact h.elim
    rename_i l hl
    exact .mk h.2.2 fun K' h' => by simp only [dindexAddr, hk, if_true, hl]; exact ⟨h.1, h.2.1, h'⟩
  · split at h
    case h_2 => exact h.elim
    rename_i ti hti
    split at h
    case h_2 => exact h.elim
    rename_i m e hs
    split at h
    case h_2 => exact h.elim
    rename_i te hte
    exact .mk h.2.2 fun K' h' => by simp only [dindexAddr, hti, hs, hte]; exact ⟨h.1, h.2.1, h'⟩
  · exact h.elim
theorem det_index {t : TypeId} {x i : T} (h : dindex D t x i K) : Det1 (dindex D t x i) K := by
  unfold dindex at h
  split at h
  case h_2 => exact h.elim
  split at h
  case h_2 => exact h.elim
  rename_i ti hti
  split at h
  · rename_i s hs
    obtain ⟨h0, b, hb, h⟩ := h
    exact .mk h fun K' h' => by simp only [dindex, hti, hs]; exact ⟨h0, b, hb, h'⟩
  · rename_i m e cs hs
    split at h
    case h_2 => exact h.elim
    rename_i te hte
    split at h
    · rename_i l hl
      obtain ⟨h0, hlt, s, hs', hK⟩ := h
      exact .mk hK fun K' h' => by simp only [dindex, hti, hs, hte, hl]; exact ⟨h0, hlt, s, hs', h'⟩
    · rename_i hl
      obtain ⟨v, h1, h2⟩ := det_subRow h.2.2
      exact .mk h1 fun K' h' => by simp only [dindex, hti, hs, hte, hl]; exact ⟨h.1, h.2.1, h2 K' h'⟩
  · exact h.elim
theorem det_build {t : TypeId} {ps : List (Nat × T)} (h : dbuild D t ps K) : Det1 (dbuild D t ps) K := by
  unfold dbuild at h
  split at h
  case h_2 => exact h.elim
  rename_i ti hti
  split at h
  case h_2 => exact h.elim
  rename_i z pl hag hz hpl
  split at h
  case h_2 => exact h.elim
  rename_i cs hcs
  exact .mk h fun K' h' => by simp only [dbuild, hti, hag, hz, hpl, hcs]; exact h'
theorem det_buildSlice {t : TypeId} {len : Nat} {ps : List (Nat × T)} (h : dbuildSlice D t len ps K) : Det1 (dbuildSlice D t len ps) K := by
  unfold dbuildSlice at h
  split at h
  · split at h
    case h_2 => exact h.elim
    rename_i hti
    split at h
    case h_2 => exact h.elim
    rename_i hs
    exact .mk h fun K' h' => by simp only [dbuildSlice, hti, hs]; exact h'
  · split at h
    case h_2 => exact h.elim
    rename_i ti hti
    split at h
    case h_2 => exact h.elim
    rename_i te' hs
    split at h
    case h_2 => exact h.elim
    rename_i te hte
    split at h
    case h_2 => exact h.elim
    rename_i z e hz he
    split at h
    case h_2 => exact h.elim
    rename_i hle
    split at h
    case h_2 => exact h.elim
    rename_i cs hcs
    split at h
    case h_2 => exact h.elim
    rename_i l hl
    exact .mk h fun K' h' => by simp only [dbuildSlice, hti, hs, hte, hz, he, hle, hcs, hl]; exact h'
theorem det_elems {s : St} {e : El} {v : T} {K : List (ty e) → Prop} (h : elems s e v K) : ∃ l, K l ∧ ∀ K' : List (ty e) → Prop, K' l → elems s e v K' := by
  unfold elems at h
  split at h
  · exact ⟨_, h, fun _ h => h⟩
  · split at h
    case isFalse => exact h.elim
    rename_i he
    exact ⟨_, h, fun K' h' => by simp only [elems, he]; exact h'⟩
  · split at h
    case isFalse => exact h.elim
    rename_i he
    split at h
    case h_2 => exact h.elim
    rename_i l hl
    exact ⟨_, h, fun K' h' => by simp only [elems, he, if_true, hl]; exact h'⟩
  · split at h
    case isFalse => exact h.elim
    rename_i he
    split at h
    case h_2 => exact h.elim
    rename_i l hl
    exact ⟨_, h, fun K' h' => by simp only [elems, he, if_true, hl]; exact h'⟩
  · exact h.elim
theorem det_appendL {ti : TI} {e : El} {s : St} {x : T} {m : List (ty e)} {K : Kn} (h : dappendL ti e s x m K) : Det true s (dappendL ti e s x m) K := by
  unfold dappendL at h
  split at h
  · exact .new h.2 fun K' h' => ⟨h.1, h'⟩
  · split at h
    case isFalse => exact h.elim
    rename_i he'
    exact .new h.2.2 fun K' h' => by simp only [dappendL, he']; exact ⟨h.1, h.2.1, h'⟩
  · split at h
    case isFalse => exact h.elim
    rename_i he'
    split at h
    case h_2 => exact h.elim
    rename_i l hl
    exact .upd h.2 fun K' h' => by simp only [dappendL, he', if_true, hl]; exact ⟨h.1, h'⟩
  · exact h.elim
theorem det_append {ti : TI} {s : St} {x y : T} {K : Kn} (h : dappend ti s x y K) : Det true s (dappend ti s x y) K := by
  unfold dappend at h
  split at h
  case h_2 => exact h.elim
  rename_i e he
  obtain ⟨m, h, k1⟩ := det_elems h
  obtain ⟨v, s', h1, h2, h3⟩ : Det true s (fun K => match isFull x && !isFull y with
    | true => bif decide (m.length = 0) then K x s else dappendL ti e s x m K
    | false => dappendL ti e s x m K) K := by
    split at h
    · rename_i hf
      by_cases hm : m.length = 0
      · rw [decide_eq_true hm, cond_true] at h
        exact .same h fun K' h' => by simp only [hf, decide_eq_true hm, cond_true]; exact h'
      · rw [decide_eq_false hm, cond_false] at h
        obtain ⟨v, s', h1, h2, h3⟩ := det_appendL h
        exact ⟨v, s', h1, fun K' h' => by simp only [hf, decide_eq_false hm, cond_false]; exact h2 K' h', h3⟩
    · rename_i hf
      obtain ⟨v, s', h1, h2, h3⟩ := det_appendL h
      exact ⟨v, s', h1, fun K' h' => by simp only [hf]; exact h2 K' h', h3⟩
  exact ⟨v, s', h1, fun K' h' => by simp only [dappend, he]; exact k1 _ (h2 K' h'), h3⟩
theorem det_appendS {ti : TI} {s : St} {x : T} {b : ByteArray} {K : Kn} (h : dappendS ti s x b K) : Det true s (dappendS ti s x b) K := by
  unfold dappendS at h
  split at h
  case h_2 => exact h.elim
  rename_i e he
  split at h
  case h_2 => exact h.elim
  rename_i f hf
  obtain ⟨v, s', h1, h2, h3⟩ := det_appendL h
  exact ⟨v, s', h1, fun K' h' => by simp only [dappendS, he, hf]; exact h2 K' h', h3⟩
theorem det_appendZ {te : TI} {s : St} {e' : El} {l : List (ty e')} {n : Int} {K : Kn} (h : dappendZ te s e' l n K) : Det true s (dappendZ te s e' l n) K := by
  unfold dappendZ at h
  split at h
  case h_2 => exact h.elim
  rename_i e z he hz
  split at h
  case h_2 => exact h.elim
  rename_i y hy
  split at h
  case isFalse => exact h.elim
  rename_i he'
  exact .new h.2.2 fun K' h' => by simp only [dappendZ, he, hz, hy, he']; exact ⟨h.1, h.2.1, h'⟩
theorem det_make {w : Bool} {T0 : TypeId} {x y : T} {s : St} {K : Kn} (h : dmake D T0 x y s K) : Det w s (dmake D T0 x y s) K := by
  unfold dmake at h
  split at h
  case h_2 => exact h.elim
  rename_i te hte
  split at h
  case h_2 => exact h.elim
  rename_i e z he hz
  split at h
  case h_2 => exact h.elim
  rename_i y0 hy
  split at h
  case h_2 => exact h.elim
  rename_i n c
  exact .new (h.2.2 _ rfl) fun K' h' => by simp only [dmake, hte, he, hz, hy]; exact ⟨h.1, h.2.1, fun l hl => by subst hl; exact h'⟩
theorem det_lookup {t : TypeId} {m k : T} {ok : Bool} {s : St} {K : T → Prop} (h : dlookup D t m k ok s K) : Det1 (dlookup D t m k ok s) K := by
  unfold dlookup at h
  split at h
  case h_2 => exact h.elim
  rename_i e ks z hi
  split at h
  case h_2 => exact h.elim
  rename_i q l hm hk
  split at h
  · exact .mk h fun K' h' => by simp only [dlookup, hi, hm, hk]; exact h'
  · exact .mk h fun K' h' => by simp only [dlookup, hi, hm, hk]; exact h'
theorem det_mapUpdate {t : TypeId} {m k v : T} {s : St} {K : St → Prop} (h : dmapUpdate D t m k v s K) : ∃ k0 o, K (s.set k0 (some o)) ∧ ∀ K' : St → Prop, K' (s.set k0 (some o)) → dmapUpdate D t m k v s K' := by
  unfold dmapUpdate at h
  split at h
  case h_2 => exact h.elim
  rename_i e ks z hi
  split at h
  case h_2 => exact h.elim
  rename_i q l y hm hk hy
  exact ⟨_, _, h, fun K' h' => by simp only [dmapUpdate, hi, hm, hk, hy]; exact h'⟩
theorem det_lenT {s : St} {v : T} {K : Nat → Prop} (h : lenT s v K) : ∃ n, K n ∧ ∀ K' : Nat → Prop, K' n → lenT s v K' := by
  unfold lenT at h
  split at h
  · exact ⟨_, h, fun _ h => h⟩
  · exact ⟨_, h, fun _ h => h⟩
  · split at h
    case h_2 => exact h.elim
    rename_i l hl
    exact ⟨_, h, fun K' h' => by simp only [lenT, hl]; exact h'⟩
  · exact ⟨_, h, fun _ h => h⟩
  · exact h.elim
theorem det_store {ti : TI} {s : St} {a v : T} {K : St → Prop} (h : dstore ti s a v K) : ∃ k o, K (s.set k (some o)) ∧ ∀ K' : St → Prop, K' (s.set k (some o)) → dstore ti s a v K' := by
  unfold dstore at h
  split at h
  case h_2 => exact h.elim
  rename_i xs hxs
  split at h
  case h_2 => exact h.elim
  rename_i hlen
  split at h
  · split at h
    case h_2 => exact h.elim
    rename_i cs hr
    split at h
    case h_2 => exact h.elim
    rename_i hoff
    exact ⟨_, _, h, fun K' h' => by simp only [dstore, hxs, hlen, hr, hoff]; exact h'⟩
  · split at h
    case h_2 => exact h.elim
    rename_i l hl
    obtain ⟨z, hz, h⟩ := h
    split at h
    case h_2 => exact h.elim
    rename_i hj
    split at h
    case h_2 => exact h.elim
    rename_i u hu
    exact ⟨_, _, h, fun K' h' => by simp only [dstore, hxs, hlen, hl]; exact ⟨z, hz, by simp only [hj, hu]; exact h'⟩⟩
  · exact h.elim
theorem det_clear {te : TI} {s : St} {x : T} {K : St → Prop} (h : dclear te s x K) : ∃ s', K s' ∧ (∀ K' : St → Prop, K' s' → dclear te s x K') ∧ s'.length = s.length := by
  unfold dclear at h
  split at h
  case h_2 => exact h.elim
  rename_i e z he hz
  split at h
  case h_2 => exact h.elim
  rename_i y hy
  split at h
  · exact ⟨s, h, fun K' h' => by simp only [dclear, he, hz, hy]; exact h', rfl⟩
  · split at h
    case isFalse => exact h.elim
    rename_i hk
    split at h
    case h_2 => exact h.elim
    rename_i l hl
    exact ⟨_, h, fun K' h' => by simp only [dclear, he, hz, hy, hk, if_true, hl]; exact h', by simp⟩
  · split at h
    case isFalse => exact h.elim
    rename_i hk
    split at h
    case h_2 => exact h.elim
    rename_i l hl
    exact ⟨_, h, fun K' h' => by simp only [dclear, he, hz, hy, hk, if_true, hl]; exact h', by simp⟩
  · exact h.elim
theorem det_builtin {b : Builtin} {ts : List TypeId} {vs : List T} {s : St} {K : Kn} (h : dbuiltin D b ts vs s K) : Det (isApp b) s (dbuiltin D b ts vs s) K := by
  unfold dbuiltin at h
  split at h
  · split at h
    case h_2 => exact h.elim
    rename_i ti hti
    split at h
    · rename_i hs
      split at h
      case h_2 => exact h.elim
      exact .same h fun K' h' => by simp only [dbuiltin, hti, hs]; exact h'
    · rename_i e hs
      obtain ⟨n, h, k⟩ := det_lenT h
      exact .same h fun K' h' => by simp only [dbuiltin, hti, hs]; exact k _ h'
    · exact h.elim
  · split at h
    · rename_i hd
      split at h
      case h_2 => exact h.elim
      rename_i te hte
      split at h
      case h_2 => exact h.elim
      rename_i z hz
      obtain ⟨v, s', h1, h2, h3⟩ := det_append h
      exact ⟨v, s', h1, fun K' h' => by simp only [dbuiltin, hd, hte, hz]; exact h2 K' h', h3⟩
    · rename_i hd
      split at h
      case h_2 => exact h.elim
      rename_i te ti1 hte hti1
      split at h
      · rename_i hs1
        split at h
        case h_2 => exact h.elim
        obtain ⟨v, s', h1, h2, h3⟩ := det_appendZ h
        exact ⟨v, s', h1, fun K' h' => by simp only [dbuiltin, hd, hte, hti1, hs1]; exact h2 K' h', h3⟩
      · rename_i hs1
        split at h
        case h_2 => exact h.elim
        rename_i z hz
        obtain ⟨v, s', h1, h2, h3⟩ := det_appendS h
        exact ⟨v, s', h1, fun K' h' => by simp only [dbuiltin, hd, hte, hti1, hs1, hz]; exact h2 K' h', h3⟩
      · exact h.elim
  · split at h
    case h_2 => exact h.elim
    rename_i ti hti
    split at h
    case h_2 => exact h.elim
    rename_i hs
    exact .same h fun K' h' => by simp only [dbuiltin, hti, hs]; exact h'
  · split at h
    case h_2 => exact h.elim
    rename_i te hte
    obtain ⟨s', h1, h2, h3⟩ := det_clear h
    exact ⟨.undef, s', h1, fun K' h' => by simp only [dbuiltin, hte]; exact h2 _ h', .inr (.inr ⟨rfl, h3⟩)⟩
  · exact .same h fun K' h' => h'
  · exact .same h fun K' h' => h'
  · exact h.elim
theorem det_conv {a b : TypeId} {s : St} {x : T} {K : Kn} {w : Bool} (h : dconv D a b s x K) : Det w s (dconv D a b s x) K := by
  unfold dconv at h
  split at h
  case h_2 => exact h.elim
  rename_i ta tb ha hb
  split at h
  · rename_i hs; exact .same h fun K' h' => by simp only [dconv, ha, hb, hs]; exact h'
  · rename_i hs1 hs2; exact .same h fun K' h' => by simp only [dconv, ha, hb, hs1, hs2]; exact h'
  · rename_i hs1 hs2
    split at h
    case h_2 => exact h.elim
    rename_i te hte
    split at h
    case h_2 => exact h.elim
    rename_i f hs hf
    exact .same h fun K' h' => by simp only [dconv, ha, hb, hs1, hs2, hte, hs, hf]; exact h'
  · rename_i hs1 hs2
    split at h
    case h_2 => exact h.elim
    rename_i te hte
    split at h
    case h_2 => exact h.elim
    rename_i f l hs hf hl
    exact .same h fun K' h' => by simp only [dconv, ha, hb, hs1, hs2, hte, hs, hf, hl]; exact h'
  · rename_i hs1 hs2
    split at h
    case h_2 => exact h.elim
    rename_i cs te hr hte
    split at h
    case h_2 => exact h.elim
    rename_i l hm hs hl
    split at h
    case h_2 => exact h.elim
    rename_i hd
    exact .same h fun K' h' => by simp only [dconv, ha, hb, hs1, hs2, hte, hs, hr, hm, hl, hd]; exact h'
  · exact h.elim
theorem det_binIf {op : BinOp} {ti : TI} {x : T} (h : dbinIf op ti x K) : Det1 (dbinIf op ti x) K := by
  unfold dbinIf at h
  split at h
  case h_2 => exact h.elim
  rename_i hs
  split at h
  case h_5 => exact h.elim
  all_goals exact .mk h fun K' h' => by simp only [dbinIf, hs]; exact h'
theorem det_pick {x : Bool} {p q : T} (h : dpick x p q K) : Det1 (dpick x p q) K := by
  unfold dpick at h
  split at h
  · exact .mk h fun K' h' => h'
  · rename_i hn
    have key : ∀ K' : T → Prop, (bif x then K' p else K' q) → dpick x p q K' := fun K' h' => by
      unfold dpick
      split
      · exact (hn _ _ rfl rfl).elim
      · exact h'
    cases x
    · exact .mk h (key · )
    · exact .mk h (key · )
theorem det_op {Γ : Gam} {mu : FuncId → Bool} (hΓ : GamDet mu Γ) {op : Op} {ρ : Operand → T} {s : St} {K : Kn} (h : dop D Γ op ρ s K fun _ _ => False) : Det (wrOp mu op ρ) s (fun K => dop D Γ op ρ s K fun _ _ => False) K := by
  unfold dop at h
  split at h
  · exact .same h fun K' h' => h'
  · exact .same h fun K' h' => h'
  · split at h
    case h_2 => exact h.elim
    rename_i b hb
    obtain ⟨v, h1, h2⟩ := det_pick h
    exact .same h1 fun K' h' => by simp only [dop, hb]; exact h2 _ h'
  · split at h
    case h_2 => exact h.elim
    rename_i ti hti
    split at h
    case h_2 => exact h.elim
    rename_i z hz
    exact .new h fun K' h' => by simp only [dop, hti, hz]; exact h'
  · split at h
    case h_2 => exact h.elim
    rename_i z hz
    exact .new h fun K' h' => by simp only [dop, hz]; exact h'
  · exact det_make h
  · split at h
    case h_2 => exact h.elim
    rename_i hm
    exact .new h fun K' h' => by simp only [dop, hm]; exact h'
  · exact Det1.lift (det_lookup h)
  · obtain ⟨k, o, h1, h2⟩ := det_mapUpdate h
    exact .upd h1 fun K' h' => h2 (fun s => K' .undef s) h'
  · obtain ⟨k, o, h1, h2⟩ := det_mapUpdate h
    exact .upd h1 fun K' h' => h2 (fun s => K' .undef s) h'
  · exact Det1.lift (det_build h)
  · exact Det1.lift (det_buildSlice h)
  · split at h
    case h_2 => exact h.elim
    rename_i ti hti
    obtain ⟨v, h1, h2⟩ := det_load h
    exact .same h1 fun K' h' => by simp only [dop, hti]; exact h2 _ h'
  · split at h
    case h_2 => exact h.elim
    rename_i ti hti
    obtain ⟨k, o, h1, h2⟩ := det_store h
    exact .upd h1 fun K' h' => by simp only [dop, hti]; exact h2 (fun s => K' .undef s) h'
  · split at h
    case h_5 => exact h.elim
    all_goals
      rename_i hv
      exact .same h fun K' h' => by simp only [dop, hv]; exact h'
  · split at h
    case h_2 => exact h.elim
    rename_i ti hti
    split at h
    · obtain ⟨v, h1, h2⟩ := det_binNil h
      exact .same h1 fun K' h' => by simp only [dop, hti]; exact h2 _ h'
    · obtain ⟨v, h1, h2⟩ := det_binIf h
      exact .same h1 fun K' h' => by simp only [dop, hti]; exact h2 _ h'
    · rename_i hn hn2
      obtain ⟨v, h1, h2⟩ := det_bin h
      exact .same h1 fun K' h' => by
        simp only [dop, hti]
        exact h2 (fun v => K' v s) h'
  · exact Det1.lift (det_un h)
  · exact det_conv h
  · split at h
    case h_2 => exact h.elim
    rename_i ti hti
    split at h
    case h_2 => exact h.elim
    rename_i hc
    exact .same h fun K' h' => by simp only [dop, hti, hc]; exact h'
  · split at h
    · exact h.elim
    · exact h.elim
  · split at h
    · rename_i hy
      exact .same h fun K' h' => by simp only [dop, hy]; exact h'
    · exact h.elim
  · split at h
    case h_2 => exact h.elim
    rename_i ti hti
    obtain ⟨v, h1, h2⟩ := det_dsl h
    exact .same h1 fun K' h' => by simp only [dop, hti]; exact h2 _ h'
  · exact Det1.lift (det_fieldAddr h)
  · exact Det1.lift (det_field h)
  · exact Det1.lift (det_indexAddr h)
  · exact Det1.lift (det_index h)
  · split at h
    case h_2 => exact h.elim
    rename_i vs hvs
    split at h
    case h_2 => exact h.elim
    rename_i v hv
    exact .same h fun K' h' => by simp only [dop, hvs, hv]; exact h'
  · exact det_builtin h
  · split at h
    case h_2 => exact h.elim
    rename_i g vs hg
    obtain ⟨v, s', h1, h2, h3⟩ := hΓ _ _ _ _ h
    exact ⟨v, s', h1, fun K' h' => by simp only [dop, hg]; exact h2 _ h', by simp only [wrOp, hg]; exact h3⟩
  · exact h.elim
end
end Go.Proofs.YtoclmkbjgmgekaaDoor

/-
  The machine over typed values, 17: parts of a store that an operation sees. No program in sight.
-/
namespace Go.Proofs.YtoclmkbjgmgekaaDoor
set_option linter.unusedVariables false
set_option linter.unusedSimpArgs false
set_option linter.unusedSectionVars false
open Go.RowKit
variable {P : Program}

def maskL (m : Nat) : Nat → St → St
  | _, [] => []
  | k, o :: r => (match m.testBit k with
    | true => o
    | false => none) :: maskL m (k + 1) r
def back (m : Nat) : Nat → St → St → St
  | _, [], _ => []
  | _, s, [] => s
  | k, o :: r, o' :: r' => (match m.testBit k with
    | true => o'
    | false => o) :: back m (k + 1) r r'
mutual
/-- Object n lies at p. -/
def fixV (n p : Nat) : T → T
  | .oa e k ver => .oa e (if k = n then p else k) ver
  | .os e k ver off c => .os e (if k = n then p else k) ver off c
  | .pt k off => .pt (if k = n then p else k) off
  | .mp k => .mp (if k = n then p else k)
  | .as k c => .as (if k = n then p else k) c
  | .pe e k ver i j => .pe e (if k = n then p else k) ver i j
  | .ag cs => .ag (fixL n p cs)
  | .tu cs => .tu (fixL n p cs)
  | .fn f xs ys => .fn f (fixL n p xs) (fixL n p ys)
  | .ic t v => .ic t (fixV n p v)
  | v => v
def fixL (n p : Nat) : List T → List T
  | [] => []
  | v :: r => fixV n p v :: fixL n p r
end
theorem fixL_me {n p : Nat} {cs : List T} : meHead (fixL n p cs) = meHead cs := by
  cases cs with
  | nil => rfl
  | cons v r => cases v <;> rfl
theorem fixL_head {n p : Nat} {cs : List T} (h : fpHead (fixL n p cs) = true) : fpHead cs = true := by
  cases cs with
  | nil => simp [fixL, fpHead] at h
  | cons v r => cases v <;> first | rfl | (simp only [fixL, fixV] at h; exact h)
def fixOb (n p : Nat) : Ob → Ob
  | .cells cs => .cells (fixL n p cs)
  | o => o
theorem maskL_length {m : Nat} : ∀ {s : St} {k : Nat}, (maskL m k s).length = s.length
  | [], _ => rfl
  | _ :: r, k => by simp [maskL, maskL_length (s := r)]
theorem maskL_get {m : Nat} : ∀ {s : St} {k i : Nat}, (maskL m k s)[i]? = (s[i]?).map fun o => if m.testBit (k + i) = true then o else none
  | [], _, _ => by simp [maskL]
  | o :: r, k, 0 => by
    simp only [maskL, List.getElem?_cons_zero, Option.map_some, Nat.add_zero]
    cases m.testBit k <;> rfl
  | o :: r, k, i + 1 => by
    simp only [maskL, List.getElem?_cons_succ]
    rw [maskL_get, show k + 1 + i = k + (i + 1) by omega]
theorem back_length {m : Nat} : ∀ {s s' : St} {k : Nat}, (back m k s s').length = s.length
  | [], _, _ => by simp [back]
  | _ :: r, [], k => by simp [back]
  | _ :: r, _ :: r', k => by simp [back, back_length (s := r)]
theorem back_get {m : Nat} : ∀ {s s' : St} {k i : Nat}, s'.length = s.length → (back m k s s')[i]? = if m.testBit (k + i) = true then s'[i]? else s[i]?
  | [], s', _, _, h => by
    have : s' = [] := List.eq_nil_of_length_eq_zero h
    subst this
    simp [back]
  | _ :: r, [], _, _, h => by simp at h
  | o :: r, o' :: r', k, 0, h => by
    simp only [back, List.getElem?_cons_zero, Nat.add_zero]
    cases m.testBit k <;> simp
  | o :: r, o' :: r', k, i + 1, h => by
    simp only [back, List.getElem?_cons_succ]
    rw [back_get (by simpa using h), show k + 1 + i = k + (i + 1) by omega]
theorem back_mask {m : Nat} {s : St} : back m 0 s (maskL m 0 s) = s := by
  refine List.ext_getElem? fun i => ?_
  rw [back_get maskL_length, maskL_get]
  split
  · rename_i h
    cases s[i]? with
    | none => rfl
    | some o => simp [h]
  · rfl
theorem fixL_length {n p : Nat} : ∀ {l : List T}, (fixL n p l).length = l.length
  | [] => rfl
  | _ :: r => by simp [fixL, fixL_length (l := r)]
theorem fixL_get {n p : Nat} : ∀ {l : List T} {i : Nat}, (fixL n p l)[i]? = (l[i]?).map (fixV n p)
  | [], _ => by simp [fixL]
  | _ :: _, 0 => by simp [fixL]
  | _ :: r, i + 1 => by simp only [fixL, List.getElem?_cons_succ]; exact fixL_get
theorem fixL_id {n p : Nat} {l : List T} (h : ∀ (i : Nat) (c : T), l[i]? = some c → fixV n p c = c) : fixL n p l = l := by
  refine List.ext_getElem? fun i => ?_
  rw [fixL_get]
  cases hc : l[i]? with
  | none => rfl
  | some c => simp [h i c hc]

section
variable {g g' : G P} {s s' : St} {w w' : World} {m n p : Nat}
theorem fix_id (hn : ∀ v, g.ob n v = none) {u : T} {x : Value} (h : R g u x) : fixV n p u = u := by
  induction h with
  | oa e k ver oi A h1 =>
    have : k ≠ n := by rintro rfl; rw [hn] at h1; cases h1
    simp [fixV, this]
  | os e k ver off c oi A c' h1 =>
    have : k ≠ n := by rintro rfl; rw [hn] at h1; cases h1
    simp [fixV, this]
  | pt k off oi h1 =>
    have : k ≠ n := by rintro rfl; rw [hn] at h1; cases h1
    simp [fixV, this]
  | mp k oi h1 =>
    have : k ≠ n := by rintro rfl; rw [hn] at h1; cases h1
    simp [fixV, this]
  | as k c oi h1 =>
    have : k ≠ n := by rintro rfl; rw [hn] at h1; cases h1
    simp [fixV, this]
  | pe e k ver i j oi h1 =>
    have : k ≠ n := by rintro rfl; rw [hn] at h1; cases h1
    simp [fixV, this]
  | ag cs xs h1 _ _ ih =>
    simp only [fixV]
    rw [fixL_id fun i c hc => by
      have hi : i < xs.size := by rw [← h1]; exact (List.getElem?_eq_some_iff.1 hc).1
      exact ih i c _ hc (Array.getElem?_eq_getElem hi)]
  | tu cs xs h1 _ ih =>
    simp only [fixV]
    rw [fixL_id fun i c hc => by
      have hi : i < xs.size := by rw [← h1]; exact (List.getElem?_eq_some_iff.1 hc).1
      exact ih i c _ hc (Array.getElem?_eq_getElem hi)]
  | fn f as bs xs ys h0 h1 h2 _ _ ih1 ih2 =>
    simp only [fixV]
    rw [fixL_id (l := as) fun i c hc => by
      have hi : i < xs.size := by rw [← h1]; exact (List.getElem?_eq_some_iff.1 hc).1
      exact ih1 i c _ hc (Array.getElem?_eq_getElem hi), fixL_id (l := bs) fun i c hc => by
      have hi : i < ys.size := by rw [← h2]; exact (List.getElem?_eq_some_iff.1 hc).1
      exact ih2 i c _ hc (Array.getElem?_eq_getElem hi)]
  | ic t v x _ ih => simp only [fixV, ih]
  | yl f us yi l r _ _ _ h4 _ ih =>
    simp only [fixV]
    rw [fixL_id (l := us) fun i c hc => by
      have hi : i < yi.live.length := by rw [← h4]; exact (List.getElem?_eq_some_iff.1 hc).1
      exact ih i c _ hc (List.getElem?_eq_getElem hi)]
    rfl
  | _ => rfl
def G.move (g : G P) (n p : Nat) : G P := { g with ob := fun k v => if k = p then g.ob n v else if k = n then none else g.ob k v }
theorem fixL_all {l : List T} {ys : Array Value} {p : T → Value → Prop} {n q : Nat} (h : ∀ (i : Nat) (c : T) (x : Value), l[i]? = some c → ys[i]? = some x → p (fixV n q c) x) : ∀ (i : Nat) (c : T) (x : Value), (fixL n q l)[i]? = some c → ys[i]? = some x → p c x := fun i c x hc hx => by
  rw [fixL_get, Option.map_eq_some_iff] at hc
  obtain ⟨c0, c1, rfl⟩ := hc
  exact h i c0 x c1 hx
theorem fix_R (hp : ∀ v, g.ob p v = none) (hne : p ≠ n) {u : T} {x : Value} (h : R g u x) : R (g.move n p) (fixV n p u) x := by
  have key : ∀ k v oi, g.ob k v = some oi → (g.move n p).ob (if k = n then p else k) v = some oi := by
    intro k v oi h
    by_cases e : k = n
    · subst e; simp [G.move, h]
    · have : k ≠ p := by rintro rfl; rw [hp] at h; cases h
      simp [G.move, e, this, h]
  induction h with
  | undef x => exact .undef x
  | int k n => exact .int k n
  | bool b => exact .bool b
  | str s => exact .str s
  | cst v => exact .cst v
  | ub b => exact .ub b
  | fp => exact .fp
  | mp k oi h1 => exact .mp _ oi (key _ _ _ h1)
  | as k c oi h1 => exact .as _ c oi (key _ _ _ h1)
  | me e l => exact .me e l
  | nil A => exact .nil A
  | sl full e l A c h1 h2 h3 h4 => exact .sl full e l A c h1 h2 h3 h4
  | oa e k ver oi A h1 h2 h3 h4 => exact .oa e _ ver oi A (key _ _ _ h1) h2 h3 h4
  | os e k ver off n oi A c h1 h2 h3 h4 h5 h6 => exact .os e _ ver off n oi A c (key _ _ _ h1) h2 h3 h4 h5 h6
  | pt k off oi h1 => exact .pt _ off oi (key _ _ _ h1)
  | pe e k ver i j oi h1 h2 => exact .pe e _ ver i j oi (key _ _ _ h1) h2
  | pr e x j b off cs h1 h2 => exact .pr e x j b off cs h1 h2
  | ag cs xs h1 _ h3 ih => exact .ag _ xs (by rw [fixL_length]; exact h1) (fixL_all ih) h3
  | tu cs xs h1 _ ih => exact .tu _ xs (by rw [fixL_length]; exact h1) (fixL_all ih)
  | fn f as bs xs ys h0 h1 h2 _ _ ih1 ih2 => exact .fn f (fixL _ p as) (fixL _ p bs) xs ys h0 (by rw [fixL_length]; exact h1) (by rw [fixL_length]; exact h2) (fixL_all ih1) (fixL_all ih2)
  | ic t v x _ ih => exact .ic t _ x ih
  | yl f us yi l r h1 h2 h3 h4 _ ih => exact .yl f (fixL _ p us) yi l r h1 h2 h3 (by rw [fixL_length]; exact h4) fun i c d hc hd => by rw [fixL_get, Option.map_eq_some_iff] at hc; obtain ⟨c0, c1, rfl⟩ := hc; exact ih i c0 d c1 hd

theorem mask_some {k : Nat} {o : Ob} (h : (maskL m 0 s)[k]? = some (some o)) : s[k]? = some (some o) ∧ m.testBit k = true := by
  rw [maskL_get, Option.map_eq_some_iff] at h
  obtain ⟨o', h1, h2⟩ := h
  rw [Nat.zero_add] at h2
  split at h2
  · rename_i hb; subst h2; exact ⟨h1, hb⟩
  · cases h2
theorem mask_none {k : Nat} (h : s[k]? ≠ none) (hb : m.testBit k = false) : (maskL m 0 s)[k]? = some none := by
  rw [maskL_get, Nat.zero_add, hb]
  cases hs : s[k]? with
  | none => exact absurd hs h
  | some o => simp
theorem good_mask (hg : Good g s w) : Good g (maskL m 0 s) w :=
  ⟨hg.ro, fun k o h => hg.obj k o (mask_some h).1, fun k k' o o' b h1 h2 h3 h4 => hg.inj k k' o o' b (mask_some h1).1 (mask_some h2).1 h3 h4, fun k v oi h => by
    obtain ⟨h1, h2⟩ := hg.old k v oi h
    exact ⟨by rw [maskL_length]; exact h1, fun o ho => h2 o (mask_some ho).1⟩, hg.fx, hg.dm, hg.laid⟩
theorem own_mask {b : Nat} (h : Own g (maskL m 0 s) b) : Own g s b := by
  obtain ⟨k, o, h1, h2⟩ := h
  exact ⟨k, o, (mask_some h1).1, h2⟩
/-- An object that is hidden stays as it was. -/
theorem hid_row (hg : Good g s w) (hs : ∀ b0, Step b0 g (maskL m 0 s) w g' s' w') (hl : GL g (maskL m 0 s) g') {k : Nat} {o : Ob} (h : s[k]? = some (some o)) (hb : m.testBit k = false) :
    (∀ v, g'.ob k v = g.ob k v) ∧ ∃ oi, g.ob k (obVer o) = some oi ∧ obFits o oi ∧ ((isArr o = true ∧ oi.cap = 0) ∨ ((∀ cs0, ¬ g'.ro oi.b cs0) ∧ ∃ (blk : Array Value) (E : TypeId) (fr : Nat × Nat), view (isMp o) w'.heap[oi.b]? = some (.cells blk E fr) ∧ (∀ q, q < blk.size → ¬ (fr.1 ≤ q ∧ q < fr.2)) ∧ Cells g (obCells o) blk ∧ obWide o oi E blk.size)) := by
  refine ⟨fun v => hl.hid k v (mask_none (by rw [h]; simp) hb), ?_⟩
  obtain ⟨oi, h1, h2, h3⟩ := hg.obj k o h
  refine ⟨oi, h1, h2, ?_⟩
  by_cases hn : isArr o = true ∧ oi.cap = 0
  · exact .inl hn
  rcases h3 with h3 | ⟨h3, blk, E, fr, h4, h5, h6, h7⟩
  · exact .inl h3
  have hblk : obBlk g k o = some oi.b := by unfold obBlk; rw [h1]; simp only; rw [if_neg hn]
  have hno : ¬ Own g (maskL m 0 s) oi.b := by
    rintro ⟨k', o', a1, a2⟩
    obtain ⟨a3, a4⟩ := mask_some a1
    have := hg.inj k k' o o' oi.b h a3 hblk a2
    subst this
    rw [hb] at a4; cases a4
  have hlt := view_lt h4
  refine .inr ⟨?_, blk, E, fr, by rw [(hs ⟨0, 0⟩).block _ hlt hno]; exact h4, h5, h6, h7⟩
  intro cs hr
  · rcases (hs ⟨0, 0⟩).new _ _ hr with h8 | h8 | h8
    · exact h3 _ h8
    · exact absurd h8 hno
    · omega
/-- What an operation did to what it saw. -/
theorem good_back (hg : Good g s w) (hg' : Good g' s' w') (hs : ∀ b0, Step b0 g (maskL m 0 s) w g' s' w') (hl : GL g (maskL m 0 s) g') (hlen : s'.length = s.length) :
    Good g' (back m 0 s s') w' ∧ (∀ b0, Step b0 g s w g' (back m 0 s s') w') ∧ GL g s g' := by
  have hget : ∀ k, (back m 0 s s')[k]? = if m.testBit k = true then s'[k]? else s[k]? := fun k => by rw [back_get hlen, Nat.zero_add]
  have hcase : ∀ k o, (back m 0 s s')[k]? = some (some o) → (m.testBit k = true ∧ s'[k]? = some (some o)) ∨ (m.testBit k = false ∧ s[k]? = some (some o)) := fun k o h => by
    rw [hget] at h
    split at h
    · rename_i hb; exact .inl ⟨hb, h⟩
    · rename_i hb; exact .inr ⟨by simpa using hb, h⟩
  have hblkH : ∀ k o, m.testBit k = false → s[k]? = some (some o) → obBlk g' k o = obBlk g k o := fun k o hb h => by
    unfold obBlk; rw [(hid_row hg hs hl h hb).1]
  have hcross : ∀ k o k' o' b, m.testBit k = false → s[k]? = some (some o) → obBlk g k o = some b → s'[k']? = some (some o') → obBlk g' k' o' = some b → False := by
    intro k o k' o' b hb h hob h' hob'
    rcases (hs ⟨0, 0⟩).own b ⟨k', o', h', hob'⟩ with ⟨k2, o2, a1, a2⟩ | h1
    · obtain ⟨a3, a4⟩ := mask_some a1
      have := hg.inj k k2 o o2 b h a3 hob a2
      subst this
      rw [hb] at a4; cases a4
    · have := hg.lt_own ⟨k, o, h, hob⟩; omega
  refine ⟨⟨hg'.ro, fun k o h => ?_, fun k k' o o' b h h' hb hb' => ?_, fun k v oi h => ?_, hg'.fx, hg'.dm, hg'.laid⟩, fun b0 => ⟨(hs ⟨0, 0⟩).os, (hs ⟨0, 0⟩).tape, (hs ⟨0, 0⟩).output, (hs ⟨0, 0⟩).size, fun b hb hno => (hs ⟨0, 0⟩).block b hb fun ho => hno (own_mask ho), (hs ⟨0, 0⟩).ro, fun b hb => ?_, fun b cs hb => ?_, fun k _ o ho => ?_, fun k _ ver e l ho => ?_, (hs ⟨0, 0⟩).fx, (hs ⟨0, 0⟩).dm, (hs ⟨0, 0⟩).dmn⟩, ⟨hl.le, fun k u hk => ?_⟩⟩
  · rcases hcase k o h with ⟨_, h1⟩ | ⟨h0, h1⟩
    · exact hg'.obj k o h1
    · obtain ⟨e, oi, a1, a2, a3⟩ := hid_row hg hs hl h1 h0
      refine ⟨oi, by rw [e]; exact a1, a2, ?_⟩
      rcases a3 with a3 | ⟨a3, blk, E, fr, a4, a5, a6, a7⟩
      · exact .inl a3
      · exact .inr ⟨a3, blk, E, fr, a4, a5, a6.mono hl.le, a7⟩
  · rcases hcase k o h with ⟨_, h1⟩ | ⟨h0, h1⟩ <;> rcases hcase k' o' h' with ⟨_, h2⟩ | ⟨h0', h2⟩
    · exact hg'.inj k k' o o' b h1 h2 hb hb'
    · rw [hblkH k' o' h0' h2] at hb'
      exact (hcross k' o' k o b h0' h2 hb' h1 hb).elim
    · rw [hblkH k o h0 h1] at hb
      exact (hcross k o k' o' b h0 h1 hb h2 hb').elim
    · rw [hblkH k o h0 h1] at hb
      rw [hblkH k' o' h0' h2] at hb'
      exact hg.inj k k' o o' b h1 h2 hb hb'
  · obtain ⟨h1, h2⟩ := hg'.old k v oi h
    refine ⟨by rw [back_length, ← hlen]; exact h1, fun o ho => ?_⟩
    rcases hcase k o ho with ⟨_, h3⟩ | ⟨h0, h3⟩
    · exact h2 o h3
    · rw [(hid_row hg hs hl h3 h0).1] at h
      exact (hg.old k v oi h).2 o h3
  · obtain ⟨k, o, h, hob⟩ := hb
    rcases hcase k o h with ⟨_, h1⟩ | ⟨h0, h1⟩
    · exact ((hs ⟨0, 0⟩).own b ⟨k, o, h1, hob⟩).imp own_mask id
    · rw [hblkH k o h0 h1] at hob
      exact .inl ⟨k, o, h1, hob⟩
  · rcases (hs ⟨0, 0⟩).new b cs hb with h1 | h1 | h1
    · exact .inl h1
    · exact .inr (.inl (own_mask h1))
    · exact .inr (.inr h1)
  · by_cases hb : m.testBit k = true
    · have hk := (hs ⟨k + 1, k + 1⟩).kept k (Nat.lt_succ_self k) o (by rw [maskL_get, ho, Nat.zero_add]; simp [hb])
      cases o with
      | cells cs =>
        obtain ⟨cs', a1, a2⟩ := hk
        exact ⟨cs', by rw [hget, if_pos hb]; exact a1, a2⟩
      | arr ver e l =>
        obtain ⟨ver', l', a1⟩ := hk
        exact ⟨ver', l', by rw [hget, if_pos hb]; exact a1⟩
    · have hb' : m.testBit k = false := by simpa using hb
      cases o with
      | cells cs => exact ⟨cs, by rw [hget, if_neg hb]; exact ho, rfl, (hid_row hg hs hl ho hb').1 0⟩
      | arr ver e l => exact ⟨ver, l, by rw [hget, if_neg hb]; exact ho⟩
  · by_cases hb : m.testBit k = true
    · obtain ⟨ver', l', a1, a2⟩ := (hs ⟨k + 1, k + 1⟩).fixd k (Nat.lt_succ_self k) ver e l (by rw [maskL_get, ho, Nat.zero_add]; simp [hb])
      exact ⟨ver', l', by rw [hget, if_pos hb]; exact a1, a2⟩
    · have hb' : m.testBit k = false := by simpa using hb
      exact ⟨ver, l, by rw [hget, if_neg hb]; exact ho, fun e0 => ⟨e0, (hid_row hg hs hl ho hb').1 0⟩⟩
  · refine hl.hid k u ?_
    rw [maskL_get, hk]
    simp
/-- A new object, in a place that was kept free. -/
theorem good_new (hg : Good g s w) {o : Ob} (hg' : Good g' (maskL m 0 s ++ [some o]) w') (hs : ∀ b0, Step b0 g (maskL m 0 s) w g' (maskL m 0 s ++ [some o]) w') (hl : GL g (maskL m 0 s) g') (hp : s[p]? = some none) (hpg : ∀ v, g.ob p v = none) :
    Good (g'.move s.length p) (s.set p (some (fixOb s.length p o))) w' ∧ (∀ b0, Step b0 g s w (g'.move s.length p) (s.set p (some (fixOb s.length p o))) w') ∧ g.le (g'.move s.length p) ∧
    (∀ (k u : Nat), s[k]? = some none → k ≠ p → (g'.move s.length p).ob k u = g.ob k u) ∧ ∀ v x, R g' v x → R (g'.move s.length p) (fixV s.length p v) x := by
  have hpl : p < s.length := (List.getElem?_eq_some_iff.1 hp).1
  have hml : (maskL m 0 s).length = s.length := maskL_length
  have hpg' : ∀ v, g'.ob p v = none := fun v => by
    rw [hl.hid p v (by rw [maskL_get, hp]; simp)]; exact hpg v
  have hng : ∀ v, g.ob s.length v = none := fun v => by
    cases h : g.ob s.length v with
    | none => rfl
    | some oi => have := (hg.old _ _ _ h).1; omega
  have hfix : ∀ v x, R g' v x → R (g'.move s.length p) (fixV s.length p v) x := fun v x h => fix_R hpg' (by omega) h
  have hle : g.le (g'.move s.length p) := ⟨hl.le.ro, fun k v oi h => by
    have h1 : k ≠ p := by rintro rfl; rw [hpg] at h; cases h
    have h2 : k ≠ s.length := by have := (hg.old _ _ _ h).1; omega
    simp only [G.move, if_neg h1, if_neg h2]
    exact hl.le.ob _ _ _ h, hl.le.fx, hl.le.dm⟩
  have hob : ∀ k v, k < s.length → k ≠ p → (g'.move s.length p).ob k v = g'.ob k v := fun k v h1 h2 => by
    simp only [G.move, if_neg h2]; rw [if_neg (by omega)]
  have hobp : ∀ v, (g'.move s.length p).ob p v = g'.ob s.length v := fun v => by simp [G.move]
  have hget : ∀ k, (s.set p (some (fixOb s.length p o)))[k]? = if k = p then some (some (fixOb s.length p o)) else s[k]? := fun k => by
    rw [List.getElem?_set]
    by_cases e : p = k
    · subst e; simp [hpl]
    · rw [if_neg e, if_neg (Ne.symm e)]
  have hnew : (maskL m 0 s ++ [some o])[s.length]? = some (some o) := by
    rw [List.getElem?_append_right (by omega), hml]; simp
  have hvis : ∀ k o2, s[k]? = some (some o2) → m.testBit k = true → (maskL m 0 s ++ [some o])[k]? = some (some o2) := fun k o2 h hb => by
    have hk := (List.getElem?_eq_some_iff.1 h).1
    rw [List.getElem?_append_left (by omega), maskL_get, h, Nat.zero_add]
    simp [hb]
  have hfo : obVer (fixOb s.length p o) = obVer o ∧ isArr (fixOb s.length p o) = isArr o ∧ isMp (fixOb s.length p o) = isMp o ∧ (∀ oi, obFits o oi → obFits (fixOb s.length p o) oi) ∧ ∀ oi E n, obWide o oi E n → obWide (fixOb s.length p o) oi E n := by
    cases o <;> exact ⟨rfl, rfl, (by first | rfl | exact fixL_me), fun _ h => h, fun _ _ _ h => by first | exact h | exact cellW_if fixL_head h⟩
  have hcell : ∀ blk, Cells g' (obCells o) blk → Cells (g'.move s.length p) (obCells (fixOb s.length p o)) blk := fun blk h => by
    cases o with
    | cells cs =>
      refine ⟨by simp only [fixOb, obCells, fixL_length]; exact h.le, fun j u hj => ?_⟩
      simp only [fixOb, obCells, fixL_get, Option.map_eq_some_iff] at hj
      obtain ⟨c, c1, rfl⟩ := hj
      obtain ⟨x, x1, x2, x3⟩ := h.at_ j c c1
      exact ⟨x, x1, x2, hfix _ _ x3⟩
    | arr ver e l => exact h.pure encs_pure fun _ _ h => h
  have hblkp : obBlk (g'.move s.length p) p (fixOb s.length p o) = obBlk g' s.length o := by
    unfold obBlk; rw [hobp, hfo.1, hfo.2.1]
  have hblkV : ∀ k o2, k < s.length → k ≠ p → obBlk (g'.move s.length p) k o2 = obBlk g' k o2 := fun k o2 h1 h2 => by unfold obBlk; rw [hob k _ h1 h2]
  have hblkH : ∀ k o2, m.testBit k = false → s[k]? = some (some o2) → obBlk g' k o2 = obBlk g k o2 := fun k o hb h => by
    unfold obBlk; rw [(hid_row hg hs hl h hb).1]
  have hcross : ∀ k o2 k' o' b, m.testBit k = false → s[k]? = some (some o2) → obBlk g k o2 = some b → (maskL m 0 s ++ [some o])[k']? = some (some o') → obBlk g' k' o' = some b → False := by
    intro k o k' o' b hb h hob h' hob'
    rcases (hs ⟨0, 0⟩).own b ⟨k', o', h', hob'⟩ with ⟨k2, o2, a1, a2⟩ | h1
    · obtain ⟨a3, a4⟩ := mask_some a1
      have := hg.inj k k2 _ o2 b h a3 hob a2
      subst this
      rw [hb] at a4; cases a4
    · have := hg.lt_own ⟨k, _, h, hob⟩; omega
  -- every object of the new store, in the old worlds
  have hcase : ∀ k o2, (s.set p (some (fixOb s.length p o)))[k]? = some (some o2) → (k = p ∧ o2 = fixOb s.length p o) ∨ (k ≠ p ∧ k < s.length ∧ s[k]? = some (some o2) ∧ (m.testBit k = true ∧ (maskL m 0 s ++ [some o])[k]? = some (some o2) ∨ m.testBit k = false)) := fun k o2 h => by
    rw [hget] at h
    split at h
    · rename_i e; simp only [Option.some.injEq] at h; exact .inl ⟨e, h.symm⟩
    · rename_i e
      refine .inr ⟨e, (List.getElem?_eq_some_iff.1 h).1, h, ?_⟩
      cases hb : m.testBit k with
      | true => exact .inl ⟨rfl, hvis k o2 h hb⟩
      | false => exact .inr rfl
  have hany : ∀ k o2 b, (s.set p (some (fixOb s.length p o)))[k]? = some (some o2) → obBlk (g'.move s.length p) k o2 = some b →
      (∃ k' o', (maskL m 0 s ++ [some o])[k']? = some (some o') ∧ obBlk g' k' o' = some b ∧ (k = p ∧ k' = s.length ∨ k ≠ p ∧ k' = k ∧ k < s.length)) ∨ (m.testBit k = false ∧ s[k]? = some (some o2) ∧ obBlk g k o2 = some b) := fun k o2 b h hb => by
    rcases hcase k o2 h with ⟨rfl, rfl⟩ | ⟨h1, h2, h3, h4 | h4⟩
    · rw [hblkp] at hb
      exact .inl ⟨_, o, hnew, hb, .inl ⟨rfl, rfl⟩⟩
    · rw [hblkV k o2 h2 h1] at hb
      exact .inl ⟨k, o2, h4.2, hb, .inr ⟨h1, rfl, h2⟩⟩
    · rw [hblkV k o2 h2 h1, hblkH k o2 h4 h3] at hb
      exact .inr ⟨h4, h3, hb⟩
  refine ⟨⟨fun b cs h => ?_, fun k o2 h => ?_, fun k k' o1 o2 b h1 h2 h3 h4 => ?_, fun k v oi h => ?_, hg'.fx, hg'.dm, hg'.laid⟩, fun b0 => ⟨(hs ⟨0, 0⟩).os, (hs ⟨0, 0⟩).tape, (hs ⟨0, 0⟩).output, (hs ⟨0, 0⟩).size, fun b hb hno => (hs ⟨0, 0⟩).block b hb fun ho => hno (own_mask ho), (hs ⟨0, 0⟩).ro, fun b hb => ?_, fun b cs hb => ?_, fun k _ o2 ho => ?_, fun k _ ver e l ho => ?_, (hs ⟨0, 0⟩).fx, (hs ⟨0, 0⟩).dm, (hs ⟨0, 0⟩).dmn⟩, hle, fun k u hk hne => ?_, hfix⟩
  · obtain ⟨blk, E, fr, p2, p3⟩ := hg'.ro b cs h
    exact ⟨blk, E, fr, p2, p3.pure fun _ _ h => h⟩
  · rcases hcase k o2 h with ⟨rfl, rfl⟩ | ⟨h1, h2, h3, h4 | h4⟩
    · obtain ⟨oi, a1, a2, a3⟩ := hg'.obj _ o hnew
      refine ⟨oi, by rw [hobp, hfo.1]; exact a1, hfo.2.2.2.1 oi a2, ?_⟩
      unfold obRow
      rw [hfo.2.1, hfo.2.2.1]
      rcases a3 with a3 | ⟨a3, blk, E, fr, a4, a5, a6, a7⟩
      · exact .inl a3
      · exact .inr ⟨a3, blk, E, fr, a4, a5, hcell blk a6, hfo.2.2.2.2 oi _ _ a7⟩
    · obtain ⟨oi, a1, a2, a3⟩ := hg'.obj k o2 h4.2
      refine ⟨oi, by rw [hob k _ h2 h1]; exact a1, a2, ?_⟩
      by_cases hn : isArr o2 = true ∧ oi.cap = 0
      · exact .inl hn
      rcases a3 with a3 | ⟨a3, blk, E, fr, a4, a5, a6, a7⟩
      · exact .inl a3
      refine .inr ⟨a3, blk, E, fr, a4, a5, ⟨a6.le, fun j u hj => ?_⟩, a7⟩
      obtain ⟨x, x1, x2, x3⟩ := a6.at_ j u hj
      refine ⟨x, x1, x2, ?_⟩
      -- what the object held before says nothing of the new one
      obtain ⟨oi', b1, _, b3⟩ := hg.obj k o2 h3
      have heq : oi' = oi := by
        have := hl.le.ob _ _ _ b1
        rw [a1] at this
        exact (Option.some.inj this).symm
      subst heq
      rcases b3 with b3 | ⟨_, blk0, _, _, _, _, b6, _⟩
      · exact absurd b3 hn
      obtain ⟨x0, _, _, y3⟩ := b6.at_ j u hj
      have := hfix u x x3
      rw [fix_id hng y3] at this
      exact this
    · obtain ⟨e, oi, a1, a2, a3⟩ := hid_row hg hs hl h3 h4
      refine ⟨oi, by rw [hob k _ h2 h1, e]; exact a1, a2, ?_⟩
      rcases a3 with a3 | ⟨a3, blk, E, fr, a4, a5, a6, a7⟩
      · exact .inl a3
      · exact .inr ⟨a3, blk, E, fr, a4, a5, a6.mono hle, a7⟩
  · rcases hany k o1 b h1 h3 with ⟨k1, p1, q1, q2, q3⟩ | ⟨q1, q2, q3⟩ <;> rcases hany k' o2 b h2 h4 with ⟨k2, p2, r1, r2, r3⟩ | ⟨r1, r2, r3⟩
    · have := hg'.inj k1 k2 p1 p2 b q1 r1 q2 r2
      omega
    · exact (hcross k' o2 k1 p1 b r1 r2 r3 q1 q2).elim
    · exact (hcross k o1 k2 p2 b q1 q2 q3 r1 r2).elim
    · exact hg.inj k k' o1 o2 b q2 r2 q3 r3
  · have hlen : (maskL m 0 s ++ [some o]).length = s.length + 1 := by simp [hml]
    simp only [G.move] at h
    split at h
    · rename_i e
      subst e
      refine ⟨by simp [hpl], fun o2 ho2 => ?_⟩
      rw [hget, if_pos rfl] at ho2
      simp only [Option.some.injEq] at ho2
      subst ho2
      rw [hfo.1]
      exact (hg'.old _ v oi h).2 o hnew
    · rename_i e
      split at h
      · cases h
      · rename_i e2
        obtain ⟨h1, h2⟩ := hg'.old k v oi h
        refine ⟨by rw [List.length_set]; omega, fun o2 ho2 => ?_⟩
        rcases hcase k o2 ho2 with ⟨rfl, _⟩ | ⟨_, _, h5, h6 | h6⟩
        · exact absurd rfl e
        · exact h2 o2 h6.2
        · rw [(hid_row hg hs hl h5 h6).1] at h
          exact (hg.old k v oi h).2 o2 h5
  · obtain ⟨k, o2, h, hob2⟩ := hb
    rcases hany k o2 b h hob2 with ⟨k1, p1, q1, q2, _⟩ | ⟨_, q2, q3⟩
    · exact ((hs ⟨0, 0⟩).own b ⟨k1, p1, q1, q2⟩).imp own_mask id
    · exact .inl ⟨k, o2, q2, q3⟩
  · rcases (hs ⟨0, 0⟩).new b cs hb with h1 | h1 | h1
    · exact .inl h1
    · exact .inr (.inl (own_mask h1))
    · exact .inr (.inr h1)
  · have hne : k ≠ p := by rintro rfl; rw [hp] at ho; cases ho
    have hkl := (List.getElem?_eq_some_iff.1 ho).1
    cases o2 with
    | cells cs =>
      refine ⟨cs, by rw [hget, if_neg hne]; exact ho, rfl, ?_⟩
      rw [hob k 0 hkl hne]
      obtain ⟨oi, h1, _⟩ := hg.obj k _ ho
      have h1 : g.ob k 0 = some oi := h1
      rw [h1]
      exact hl.le.ob _ _ _ h1
    | arr ver e l => exact ⟨ver, l, by rw [hget, if_neg hne]; exact ho⟩
  · have hne : k ≠ p := by rintro rfl; rw [hp] at ho; cases ho
    have hkl := (List.getElem?_eq_some_iff.1 ho).1
    refine ⟨ver, l, by rw [hget, if_neg hne]; exact ho, fun e0 => ⟨e0, ?_⟩⟩
    subst e0
    rw [hob k 0 hkl hne]
    obtain ⟨oi, h1, _⟩ := hg.obj k _ ho
    have h1 : g.ob k 0 = some oi := h1
    rw [h1]
    exact hl.le.ob _ _ _ h1
  · rw [hob k u (List.getElem?_eq_some_iff.1 hk).1 hne]
    exact hl.hid k u (by rw [maskL_get, hk]; simp)
end
end Go.Proofs.YtoclmkbjgmgekaaDoor

/-
  The machine over typed values, 18: regions that draw their order: the order of the text is enough. No program in sight.
-/
namespace Go.Proofs.YtoclmkbjgmgekaaDoor
set_option linter.unusedVariables false
set_option linter.unusedSimpArgs false
set_option linter.unusedSectionVars false
open Go.RowKit

/-- For an operation of a region that draws: which objects it sees; may it write? the place of its own object. -/
structure Row where
  vis : Nat
  wr : Bool
  own : Option Nat
def evF (τ : Nat → T) : Operand → T
  | .tmp i => τ i
  | .const v => tval v
  | .global g => .cst (.pointer (some ⟨g, 0, none⟩))
  | .func f => fnT f
theorem ev_evF (t : Tm) : ev t = evF (get t) := by funext x; cases x <;> rfl
def setF (τ : Nat → T) (dst : Option Tmp) (v : T) : Nat → T :=
  match dst with
  | none => τ
  | some d => fun i => if i = d then v else τ i
def gdF (ops : Array Oper) (g : Option (Nat × Bool)) (τ : Nat → T) : Option Bool :=
  match gdOf ops g with
  | some none => some true
  | some (some (d, want)) => match τ d with
    | .bool b => some (b == want)
    | .cst (.tuple _) => some false
    | _ => none
  | none => none
abbrev noX : Kn := fun _ _ => False
/-- What an operation of a drawing region does. -/
def Eff (D : TD) (Γ : Gam) (row : Row) (op : Op) (τ : Nat → T) (s : St) (v : T) (s1 : St) : Prop :=
  ∃ v' s', (∀ K : Kn, K v' s' → dop D Γ op (evF τ) (maskL row.vis 0 s) K noX) ∧
    ((s' = maskL row.vis 0 s ∧ v = v' ∧ s1 = s) ∨ (row.wr = true ∧ s'.length = s.length ∧ v = v' ∧ s1 = back row.vis 0 s s') ∨
     ∃ o p, s' = maskL row.vis 0 s ++ [some o] ∧ row.own = some p ∧ v = fixV s.length p v' ∧ s1 = s.set p (some (fixOb s.length p o)))
def Stp (D : TD) (Γ : Gam) (n : Nat) (ops : Array Oper) (tab : List Row) (i : Nat) (τ : Nat → T) (s : St) (τ' : Nat → T) (s' : St) : Prop :=
  ∃ o row, ops[i]? = some o ∧ tab[i]? = some row ∧ (∀ d, o.dst = some d → d < n) ∧ ((gdF ops o.guard τ = some true ∧ ∃ v, Eff D Γ row o.op τ s v s' ∧ τ' = setF τ o.dst v) ∨ (gdF ops o.guard τ = some false ∧ τ' = setF τ o.dst (.cst Go.undef) ∧ s' = s))
def Run (D : TD) (Γ : Gam) (n : Nat) (ops : Array Oper) (tab : List Row) : List Nat → (Nat → T) → St → (Nat → T) → St → Prop
  | [], τ, s, τ', s' => τ = τ' ∧ s = s'
  | i :: r, τ, s, τ', s' => ∃ τ1 s1, Stp D Γ n ops tab i τ s τ1 s1 ∧ Run D Γ n ops tab r τ1 s1 τ' s'

theorem evF_set {τ : Nat → T} {dst : Option Tmp} {v : T} {x : Operand} (h : ∀ d, dst = some d → x ≠ .tmp d) : evF (setF τ dst v) x = evF τ x := by
  cases dst with
  | none => rfl
  | some d =>
    cases x with
    | tmp i =>
      have : i ≠ d := fun e => h d rfl (by rw [e])
      simp [evF, setF, this]
    | _ => rfl
theorem map_ev {ρ ρ' : Operand → T} {l : List Operand} (h : ∀ x ∈ l, ρ x = ρ' x) : l.map ρ = l.map ρ' := List.map_congr_left h
theorem dop_ev {D : TD} {Γ : Gam} {op : Op} {ρ ρ' : Operand → T} {s : St} {K X : Kn} (h : ∀ x ∈ op.operands, ρ x = ρ' x) : dop D Γ op ρ s K X = dop D Γ op ρ' s K X := by
  cases op <;> try rfl
  case move x => simp only [dop]; rw [h x (by simp [Op.operands])]
  case assign x => simp only [dop]; rw [h x (by simp [Op.operands])]
  case pick c x y => simp only [dop]; rw [h c (by simp [Op.operands]), h x (by simp [Op.operands]), h y (by simp [Op.operands])]
  case box T x => simp only [dop]; rw [h x (by simp [Op.operands])]
  case build T ps =>
    simp only [dop]
    rw [show (ps.toList.map fun p => (p.1, ρ p.2)) = ps.toList.map fun p => (p.1, ρ' p.2) from List.map_congr_left fun p hp => by rw [h p.2 (by simp only [Op.operands]; simp; exact ⟨p.1, by simpa using hp⟩)]]
  case buildSlice T n ps =>
    simp only [dop]
    rw [show (ps.toList.map fun p => (p.1, ρ p.2)) = ps.toList.map fun p => (p.1, ρ' p.2) from List.map_congr_left fun p hp => by rw [h p.2 (by simp only [Op.operands]; simp; exact ⟨p.1, by simpa using hp⟩)]]
  case load T x => simp only [dop]; rw [h x (by simp [Op.operands])]
  case store T x y => simp only [dop]; rw [h x (by simp [Op.operands]), h y (by simp [Op.operands])]
  case nilCheck x => simp only [dop]; rw [h x (by simp [Op.operands])]
  case binOp op T x y U => simp only [dop]; rw [h x (by simp [Op.operands]), h y (by simp [Op.operands])]
  case unOp op T x => simp only [dop]; rw [h x (by simp [Op.operands])]
  case convert s d x => simp only [dop]; rw [h x (by simp [Op.operands])]
  case makeInterface T x => simp only [dop]; rw [h x (by simp [Op.operands])]
  case panic x => simp only [dop]; rw [h x (by simp [Op.operands])]
  case makeFunc f xs ys =>
    cases f <;> simp only [dop]
    rw [map_ev (l := xs.toList) fun x hx => h x (by simp [Op.operands]; exact .inl (by simpa using hx)), map_ev (l := ys.toList) fun x hx => h x (by simp [Op.operands]; exact .inr (by simpa using hx))]
  case slice T x lo hi mx =>
    simp only [dop]
    have h1 : lo.map ρ = lo.map ρ' := by cases lo <;> simp; exact h _ (by simp [Op.operands])
    have h2 : hi.map ρ = hi.map ρ' := by cases hi <;> simp; exact h _ (by simp [Op.operands])
    have h3 : mx.map ρ = mx.map ρ' := by cases mx <;> simp; exact h _ (by simp [Op.operands])
    rw [h x (by simp [Op.operands]), h1, h2, h3]
  case fieldAddr s x f => simp only [dop]; rw [h x (by simp [Op.operands])]
  case field s x f => simp only [dop]; rw [h x (by simp [Op.operands])]
  try case makeMap T r => cases r <;> simp only [dop]
  try case lookup T m k ok => simp only [dop]; rw [h m (by simp [Op.operands]), h k (by simp [Op.operands])]
  try case mapUpdate T m k v => simp only [dop]; rw [h m (by simp [Op.operands]), h k (by simp [Op.operands]), h v (by simp [Op.operands])]
  try case insert T m k v => simp only [dop]; rw [h m (by simp [Op.operands]), h k (by simp [Op.operands]), h v (by simp [Op.operands])]
  case makeSlice T x y => simp only [dop]; rw [h x (by simp [Op.operands]), h y (by simp [Op.operands])]
  case indexAddr T x y => simp only [dop]; rw [h x (by simp [Op.operands]), h y (by simp [Op.operands])]
  case index T x y => simp only [dop]; rw [h x (by simp [Op.operands]), h y (by simp [Op.operands])]
  case extract x i => simp only [dop]; rw [h x (by simp [Op.operands])]
  case call c =>
    obtain ⟨callee, args, ts⟩ := c
    have hargs : args.toList.map ρ = args.toList.map ρ' := map_ev fun x hx => h x (by simp [Op.operands, Call.operands]; exact .inr (by simpa using hx))
    cases callee with
    | value f => simp only [dop]; rw [hargs, h f (by simp [Op.operands, Call.operands])]
    | builtin b => simp only [dop]; rw [hargs]
    | _ => rfl

/-! ### Two operations change places -/
/-- Neither operation sees what the other does. -/
def indep (ops : Array Oper) (x y : Oper) (p q : Row) : Bool :=
  (match x.dst with | some d => !(y.looksAt ops).contains d && y.dst != some d | none => true) &&
  (match y.dst with | some d => !(x.looksAt ops).contains d | none => true) &&
  (match p.own with | some a => !q.vis.testBit a | none => true) &&
  (match q.own with | some a => !p.vis.testBit a | none => true) &&
  (match p.own, q.own with | some a, some b => a != b | _, _ => true) &&
  (!(p.wr || q.wr) || p.vis &&& q.vis == 0)

section
variable {D : TD} {Γ : Gam} {n : Nat} {ops : Array Oper} {tab : List Row}

theorem looks_op {o : Oper} {d : Tmp} (h : d ∉ o.looksAt ops) : ∀ x ∈ o.op.operands, x ≠ .tmp d := by
  intro x hx e
  subst e
  apply h
  unfold Oper.looksAt
  rw [List.mem_append]
  left
  rw [List.mem_filterMap]
  exact ⟨.tmp d, by simpa using hx, rfl⟩
theorem looks_gd {o : Oper} {dst : Option Tmp} {τ : Nat → T} {v : T} (h : ∀ d, dst = some d → d ∉ o.looksAt ops) : gdF ops o.guard (setF τ dst v) = gdF ops o.guard τ := by
  cases dst with
  | none => rfl
  | some d =>
    have h := h d rfl
    unfold gdF gdOf
    cases hg : o.guard with
    | none => rfl
    | some p =>
      obtain ⟨j, want⟩ := p
      simp only
      cases hd : (ops[j]?).bind (·.dst) with
      | none => rfl
      | some e =>
        have : e ≠ d := fun e' => h (by
          unfold Oper.looksAt
          rw [List.mem_append]
          right
          simp [hg, hd, e'])
        simp [setF, this]
theorem looks_ev {o : Oper} {dst : Option Tmp} {τ : Nat → T} {v : T} (h : ∀ d, dst = some d → d ∉ o.looksAt ops) : ∀ x ∈ o.op.operands, evF (setF τ dst v) x = evF τ x :=
  fun x hx => evF_set fun d hd => looks_op (h d hd) x hx
theorem Eff_ev {row : Row} {op : Op} {τ τ' : Nat → T} {s s' : St} {v : T} (h : Eff D Γ row op τ s v s') (he : ∀ x ∈ op.operands, evF τ' x = evF τ x) : Eff D Γ row op τ' s v s' := by
  obtain ⟨v', s1, h1, h2⟩ := h
  exact ⟨v', s1, fun K hK => by rw [dop_ev he]; exact h1 K hK, h2⟩
theorem setF_comm {τ : Nat → T} {x y : Option Tmp} {v u : T} (h : ∀ d, x = some d → y ≠ some d) : setF (setF τ x v) y u = setF (setF τ y u) x v := by
  cases x with
  | none => rfl
  | some d =>
    cases y with
    | none => rfl
    | some e =>
      have hne : e ≠ d := fun e' => h d rfl (by rw [e'])
      funext i
      simp only [setF]
      by_cases h1 : i = e
      · subst h1; simp [hne]
      · simp [h1]
theorem indep_spec {x y : Oper} {p q : Row} (h : indep ops x y p q = true) : (∀ d, x.dst = some d → d ∉ y.looksAt ops) ∧ (∀ d, x.dst = some d → y.dst ≠ some d) ∧ (∀ d, y.dst = some d → d ∉ x.looksAt ops) ∧
    (∀ a, p.own = some a → q.vis.testBit a = false) ∧ (∀ a, q.own = some a → p.vis.testBit a = false) ∧ (∀ a b, p.own = some a → q.own = some b → a ≠ b) ∧ (p.wr = true ∨ q.wr = true → ∀ i, p.vis.testBit i = true → q.vis.testBit i = true → False) := by
  simp only [indep, Bool.and_eq_true] at h
  obtain ⟨⟨⟨⟨⟨h1, h2⟩, h3⟩, h4⟩, h5⟩, h6⟩ := h
  refine ⟨fun d hd => ?_, fun d hd => ?_, fun d hd => ?_, fun a ha => ?_, fun a ha => ?_, fun a b ha hb => ?_, fun hw i hi hj => ?_⟩
  · simp [hd] at h1; exact h1.1
  · simp [hd] at h1; exact h1.2
  · simp [hd] at h2; exact h2
  · simpa [ha] using h3
  · simpa [ha] using h4
  · simpa [ha, hb] using h5
  · have h6 : p.vis &&& q.vis = 0 := by rcases hw with hw | hw <;> simpa [hw] using h6
    have := Nat.testBit_and p.vis q.vis i
    rw [h6, hi, hj] at this
    simp at this
theorem mask_set {m k : Nat} {s : St} {o : Option Ob} (h : m.testBit k = false) : maskL m 0 (s.set k o) = maskL m 0 s := by
  refine List.ext_getElem? fun i => ?_
  rw [maskL_get, maskL_get, List.getElem?_set]
  by_cases e : k = i
  · subst e
    simp only [if_true, Nat.zero_add, h, Bool.false_eq_true, if_false]
    by_cases hl : k < s.length
    · rw [if_pos hl, List.getElem?_eq_getElem hl]; rfl
    · rw [if_neg hl, List.getElem?_eq_none (by omega)]
  · rw [if_neg e]
theorem mask_back {m m' : Nat} {s s' : St} (hl : s'.length = s.length) (h : ∀ i, m.testBit i = true → m'.testBit i = true → False) : maskL m 0 (back m' 0 s s') = maskL m 0 s := by
  refine List.ext_getElem? fun i => ?_
  rw [maskL_get, maskL_get, back_get hl, Nat.zero_add]
  by_cases hb : m'.testBit i = true
  · have hmi : m.testBit i = false := by cases hb' : m.testBit i with | true => exact (h i hb' hb).elim | false => rfl
    simp only [hb, if_true, hmi, Bool.false_eq_true, if_false]
    by_cases hi : i < s.length
    · rw [List.getElem?_eq_getElem hi, List.getElem?_eq_getElem (by omega)]; rfl
    · rw [List.getElem?_eq_none (by omega), List.getElem?_eq_none (by omega)]
  · rw [if_neg hb]
theorem back_set {m k : Nat} {s s' : St} {o : Option Ob} (hl : s'.length = s.length) (h : m.testBit k = false) : back m 0 (s.set k o) s' = (back m 0 s s').set k o := by
  refine List.ext_getElem? fun i => ?_
  rw [back_get (by simpa using hl), List.getElem?_set, List.getElem?_set, back_get hl, back_length, Nat.zero_add]
  by_cases e : k = i
  · subst e; simp [h]
  · simp [e]
theorem back_back {m m' : Nat} {s s' s'' : St} (hl : s'.length = s.length) (hl' : s''.length = s.length) (h : ∀ i, m.testBit i = true → m'.testBit i = true → False) : back m 0 (back m' 0 s s') s'' = back m' 0 (back m 0 s s'') s' := by
  refine List.ext_getElem? fun i => ?_
  rw [back_get (by rw [back_length]; exact hl'), back_get hl, back_get (by rw [back_length]; exact hl), back_get hl', Nat.zero_add]
  by_cases h1 : m.testBit i = true <;> by_cases h2 : m'.testBit i = true
  · exact (h i h1 h2).elim
  · simp [h1, h2]
  · simp [h1, h2]
  · simp [h1, h2]
/-- The three kinds of effect. -/
theorem Eff_cases {row : Row} {op : Op} {τ : Nat → T} {s s1 : St} {v : T} (h : Eff D Γ row op τ s v s1) :
    (s1 = s ∧ ∀ st, maskL row.vis 0 st = maskL row.vis 0 s → Eff D Γ row op τ st v st) ∨
    (∃ p o, row.own = some p ∧ s1 = s.set p o ∧ ∀ st, maskL row.vis 0 st = maskL row.vis 0 s → Eff D Γ row op τ st v (st.set p o)) ∨
    (∃ s', row.wr = true ∧ s'.length = s.length ∧ s1 = back row.vis 0 s s' ∧ ∀ st, maskL row.vis 0 st = maskL row.vis 0 s → Eff D Γ row op τ st v (back row.vis 0 st s')) := by
  obtain ⟨v', s', h1, h2⟩ := h
  have hlen : ∀ st, maskL row.vis 0 st = maskL row.vis 0 s → st.length = s.length := fun st h => by
    have := congrArg List.length h
    rwa [maskL_length, maskL_length] at this
  rcases h2 with ⟨rfl, rfl, rfl⟩ | ⟨a1, a2, rfl, rfl⟩ | ⟨o, p, rfl, a2, rfl, rfl⟩
  · exact .inl ⟨rfl, fun st hst => ⟨v, _, fun K hK => by rw [hst]; exact h1 K hK, .inl ⟨hst.symm, rfl, rfl⟩⟩⟩
  · exact .inr (.inr ⟨s', a1, a2, rfl, fun st hst => ⟨v, s', fun K hK => by rw [hst]; exact h1 K hK, .inr (.inl ⟨a1, by rw [hlen st hst]; exact a2, rfl, rfl⟩)⟩⟩)
  · exact .inr (.inl ⟨p, _, a2, rfl, fun st hst => ⟨v', _, fun K hK => by rw [hst]; exact h1 K hK, .inr (.inr ⟨o, p, by rw [hst], a2, by rw [hlen st hst], by rw [hlen st hst]⟩)⟩⟩)
/-- Two effects change places. -/
theorem Eff_swap {x y : Oper} {p q : Row} {τ : Nat → T} {s s1 s2 : St} {v u : T} (hi : indep ops x y p q = true) (h1 : Eff D Γ p x.op τ s v s1) (h2 : Eff D Γ q y.op τ s1 u s2) :
    ∃ s1', Eff D Γ q y.op τ s u s1' ∧ Eff D Γ p x.op τ s1' v s2 := by
  obtain ⟨_, _, _, i4, i5, i6, i7⟩ := indep_spec hi
  rcases Eff_cases h1 with ⟨rfl, a⟩ | ⟨pa, oa, a1, rfl, a⟩ | ⟨sa, a1, a2, rfl, a⟩
  · rcases Eff_cases h2 with ⟨rfl, b⟩ | ⟨pb, ob, b1, rfl, b⟩ | ⟨sb, b1, b2, rfl, b⟩
    · exact ⟨_, h2, h1⟩
    · exact ⟨_, h2, a _ (mask_set (i5 pb b1))⟩
    · exact ⟨_, h2, a _ (mask_back b2 (i7 (.inr b1)))⟩
  · have hm : maskL q.vis 0 s = maskL q.vis 0 (s.set pa oa) := (mask_set (i4 pa a1)).symm
    rcases Eff_cases h2 with ⟨rfl, b⟩ | ⟨pb, ob, b1, rfl, b⟩ | ⟨sb, b1, b2, rfl, b⟩
    · exact ⟨s, b s hm, h1⟩
    · refine ⟨_, b s hm, ?_⟩
      rw [List.set_comm _ _ (i6 pa pb a1 b1)]
      exact a _ (mask_set (i5 pb b1))
    · refine ⟨_, b s hm, ?_⟩
      have b2' : sb.length = s.length := by simpa using b2
      rw [back_set b2' (i4 pa a1)]
      exact a _ (mask_back b2' (i7 (.inr b1)))
  · have hd := i7 (.inl a1)
    have hd' : ∀ i, q.vis.testBit i = true → p.vis.testBit i = true → False := fun i h1 h2 => hd i h2 h1
    have hm : maskL q.vis 0 s = maskL q.vis 0 (back p.vis 0 s sa) := (mask_back a2 hd').symm
    rcases Eff_cases h2 with ⟨rfl, b⟩ | ⟨pb, ob, b1, rfl, b⟩ | ⟨sb, b1, b2, rfl, b⟩
    · exact ⟨s, b s hm, h1⟩
    · refine ⟨_, b s hm, ?_⟩
      rw [← back_set a2 (i5 pb b1)]
      exact a _ (mask_set (i5 pb b1))
    · rw [back_length] at b2
      refine ⟨_, b s hm, ?_⟩
      rw [back_back a2 b2 hd']
      exact a _ (mask_back b2 hd)
theorem Stp_swap {i j : Nat} {τ τ1 τ2 : Nat → T} {s s1 s2 : St} (hi : ∀ x y p q, ops[j]? = some x → ops[i]? = some y → tab[j]? = some p → tab[i]? = some q → indep ops x y p q = true)
    (h1 : Stp D Γ n ops tab j τ s τ1 s1) (h2 : Stp D Γ n ops tab i τ1 s1 τ2 s2) : ∃ τ1' s1', Stp D Γ n ops tab i τ s τ1' s1' ∧ Stp D Γ n ops tab j τ1' s1' τ2 s2 := by
  obtain ⟨x, p, x1, x2, x3, x4⟩ := h1
  obtain ⟨y, q, y1, y2, y3, y4⟩ := h2
  have hind := hi x y p q x1 y1 x2 y2
  obtain ⟨i1, i2, i3, _⟩ := indep_spec hind
  rcases x4 with ⟨gx, v, ex, rfl⟩ | ⟨gx, rfl, rfl⟩
  · rw [looks_gd i1] at y4
    rcases y4 with ⟨gy, u, ey, rfl⟩ | ⟨gy, rfl, rfl⟩
    · have ey' := Eff_ev ey (τ' := τ) fun z hz => (looks_ev i1 z hz).symm
      obtain ⟨st1', e1, e2⟩ := Eff_swap hind ex ey'
      exact ⟨_, st1', ⟨y, q, y1, y2, y3, .inl ⟨gy, u, e1, rfl⟩⟩, ⟨x, p, x1, x2, x3, .inl ⟨by rw [looks_gd i3]; exact gx, v, Eff_ev e2 (looks_ev i3), setF_comm i2⟩⟩⟩
    · exact ⟨_, s, ⟨y, q, y1, y2, y3, .inr ⟨gy, rfl, rfl⟩⟩, ⟨x, p, x1, x2, x3, .inl ⟨by rw [looks_gd i3]; exact gx, v, Eff_ev ex (looks_ev i3), setF_comm i2⟩⟩⟩
  · rw [looks_gd i1] at y4
    rcases y4 with ⟨gy, u, ey, rfl⟩ | ⟨gy, rfl, rfl⟩
    · have ey' := Eff_ev ey (τ' := τ) fun z hz => (looks_ev i1 z hz).symm
      exact ⟨_, s2, ⟨y, q, y1, y2, y3, .inl ⟨gy, u, ey', rfl⟩⟩, ⟨x, p, x1, x2, x3, .inr ⟨by rw [looks_gd i3]; exact gx, setF_comm i2, rfl⟩⟩⟩
    · exact ⟨_, _, ⟨y, q, y1, y2, y3, .inr ⟨gy, rfl, rfl⟩⟩, ⟨x, p, x1, x2, x3, .inr ⟨by rw [looks_gd i3]; exact gx, setF_comm i2, rfl⟩⟩⟩
theorem Run_take {i : Nat} {r2 : List Nat} : ∀ (r1 : List Nat) {τ τ' : Nat → T} {s s' : St}, (∀ j ∈ r1, ∀ x y p q, ops[j]? = some x → ops[i]? = some y → tab[j]? = some p → tab[i]? = some q → indep ops x y p q = true) →
    Run D Γ n ops tab (r1 ++ i :: r2) τ s τ' s' → ∃ τ1 s1, Stp D Γ n ops tab i τ s τ1 s1 ∧ Run D Γ n ops tab (r1 ++ r2) τ1 s1 τ' s'
  | [], _, _, _, _, _, h => h
  | j :: r1, τ, τ', s, s', hi, h => by
    obtain ⟨τ1, st1, h1, h2⟩ := h
    obtain ⟨τ2, st2, h3, h4⟩ := Run_take r1 (fun j hj => hi j (by simp [hj])) h2
    obtain ⟨τ3, st3, h5, h6⟩ := Stp_swap (hi j (by simp)) h1 h3
    exact ⟨τ3, st3, h5, τ2, st2, h6, h4⟩
end
end Go.Proofs.YtoclmkbjgmgekaaDoor
