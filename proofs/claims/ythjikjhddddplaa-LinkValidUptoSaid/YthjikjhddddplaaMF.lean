/-
  The machine over typed values, 14: functions, and calls over a part of the store. No program in sight.
-/
import Derived.Test.YthjikjhddddplaaMY
namespace Go.Proofs.Ythjikjhddddplaa
set_option linter.unusedVariables false
set_option linter.unusedSimpArgs false
open Go.RowKit

def initT : Nat → List T → Tm
  | _, [] => []
  | i, v :: r => (i, v) :: initT (i + 1) r
theorem get_initT : ∀ (us : List T) (i j : Nat), get (initT i us) j = if i ≤ j then us.getD (j - i) .undef else .undef
  | [], i, j => by simp [initT, get]
  | v :: r, i, j => by
    simp only [initT, get]
    by_cases e : j = i
    · subst e; simp
    · rw [if_neg e, get_initT r (i + 1) j]
      by_cases h : i ≤ j
      · have h1 : j - i = (j - (i + 1)) + 1 := by omega
        rw [if_pos (by omega), if_pos h, h1]; simp
      · rw [if_neg (by omega), if_neg h]
def dres (D : TD) (t : Tm) (s : St) : List ResultVar → (List T → Prop) → Prop
  | [], K => K []
  | .tmp i :: r, K => dres D t s r fun l => K (get t i :: l)
  | .cell i ty :: r, K => match tyOf D ty with
    | some ti => dload ti s (get t i) fun v => dres D t s r fun l => K (v :: l)
    | none => False
def resV : List T → T
  | [v] => v
  | vs => .tu vs
def endK (D : TD) (rs : List ResultVar) (K X : Kn) : Kc
  | .ret, t, s => dres D t s rs fun l => K (resV l) s
  | .normal, t, s => dres D t s rs fun l => K (resV l) s
  | .pan v, _, s => X v s
  | _, _, _ => False
/-- What a function comes to, over a store of its own. -/
def dfun (D : TD) (Γ : Gam) (mu : FuncId → Bool) (H J : List (Nat × Hint)) (n : Nat) (rs : List ResultVar) (c : Code) (args : List T) (st : St) (K X : Kn) (c0 : Nat := 0) : Prop :=
  den D Γ mu H J n ⟨st.length, c0⟩ c (endK D rs K X) (initT 0 args) st
/-- A call over a store of its own. -/
def FCalls (P : Program) (f : FuncId) (vs : List T) (st : St) (K X : Kn) (c0 : Nat := 0) : Prop :=
  enters P f = true ∧ ∀ (g : G) (w : World) (args : Array Value), Good g st w → RL g vs args → Calls P f args w fun e w' => ∃ (g' : G) (st' : St), Good g' st' w' ∧ Step ⟨st.length, c0⟩ g st w g' st' w' ∧
    match e with
    | .returned x => ∃ r, K r st' ∧ R g' r x
    | .panicked ch => ∃ v u, ch = [{ v, recovered := false }] ∧ X u st' ∧ R g' u v
    | .outgrown => False

section
variable {P : Program} {D : TD} {Γ : Gam} {mu : FuncId → Bool} {g : G} {st : St} {w : World} {n : Nat} {b0 : B0} {t : Tm} {a : Act}

theorem RelT_init {us : List T} {args : Array Value} (h : RL g us args) (hl : us.length ≤ n) : RelT g n (initT 0 us) { tmps := args ++ Array.replicate (n - args.size) Go.undef, defers := [] } := by
  refine ⟨by simp; have := h.len; omega, rfl, fun i => ?_⟩
  rw [get_initT]
  simp only [Nat.zero_le, if_true, Nat.sub_zero, Array.getD_eq_getD_getElem?, List.getD_eq_getElem?_getD]
  by_cases hi : i < us.length
  · have hi' : i < args.size := by rw [← h.len]; exact hi
    rw [Array.getElem?_append_left hi', List.getElem?_eq_getElem hi, Array.getElem?_eq_getElem hi']
    exact h.val i _ _ (List.getElem?_eq_getElem hi) (Array.getElem?_eq_getElem hi')
  · rw [List.getElem?_eq_none (by omega)]
    exact .undef _
def resOne (tmps : Array Value) : ResultVar → Sem Value
  | .tmp t => pure (tmps.getD t Go.undef)
  | .cell p T => do loadVar T (← asAddr (tmps.getD p Go.undef))
theorem dres_sound (hD : TDok P D) (hg : Good g st w) (ht : RelT g n t a) : ∀ (rs : List ResultVar) (K : List T → Prop), dres D t st rs K →
    ∃ (xs : List Value) (vs : List T), K vs ∧ (rs.mapM (resOne a.tmps)).run P w = .ok xs w ∧ vs.length = xs.length ∧ ∀ (i : Nat) (v : T) (x : Value), vs[i]? = some v → xs[i]? = some x → R g v x
  | [], K, h => ⟨[], [], h, by simp, rfl, by simp⟩
  | .tmp i :: r, K, h => by
    obtain ⟨xs, vs, k0, k1, k2, k3⟩ := dres_sound hD hg ht r _ h
    refine ⟨a.tmps.getD i Go.undef :: xs, _, k0, by simp only [List.mapM_cons, resOne, Sem.run_bind, Sem.run_pure, Result.andThen_ok, k1], by simp [k2], fun j v x hv hx => ?_⟩
    cases j with
    | zero => simp only [List.getElem?_cons_zero, Option.some.injEq] at hv hx; subst hv; subst hx; exact ht.val i
    | succ j => simp only [List.getElem?_cons_succ] at hv hx; exact k3 j v x hv hx
  | .cell p ty :: r, K, h => by
    simp only [dres] at h
    split at h
    case h_2 => exact h.elim
    rename_i ti hti
    obtain ⟨ad, y, u, hx, hload, hy, h⟩ := dload_some (hD _ _ hti) hg (ht.val p) h
    obtain ⟨xs, vs, k0, k1, k2, k3⟩ := dres_sound hD hg ht r _ h
    refine ⟨y :: xs, _, k0, by simp only [List.mapM_cons, resOne, Sem.run_bind, Sem.run_pure, Result.andThen_ok, hx, asAddr, hload, k1], by simp [k2], fun j v x hv hx => ?_⟩
    cases j with
    | zero => simp only [List.getElem?_cons_zero, Option.some.injEq] at hv hx; subst hv; subst hx; exact hy
    | succ j => simp only [List.getElem?_cons_succ] at hv hx; exact k3 j v x hv hx
theorem results_sound (hD : TDok P D) {fn : Func} {K : T → Prop} (hg : Good g st w) (ht : RelT g n t a) (h : dres D t st fn.results.toList fun l => K (resV l)) : ∃ x v, K v ∧ (results fn a.tmps).run P w = .ok x w ∧ R g v x := by
  obtain ⟨xs, vs, k0, k1, k2, k3⟩ := dres_sound hD hg ht _ _ h
  have hrun : (results fn a.tmps).run P w = .ok (if h : xs.toArray.size = 1 then xs.toArray[0] else .tuple xs.toArray) w := by
    have he : results fn a.tmps = (do let vs ← fn.results.mapM (resOne a.tmps); pure (if h : vs.size = 1 then vs[0] else .tuple vs)) := rfl
    rw [he, Array.mapM_eq_mapM_toList]
    simp only [map_eq_pure_bind, Sem.run_bind, Sem.run_pure, k1, Result.andThen_ok]
  refine ⟨_, resV vs, k0, hrun, ?_⟩
  cases vs with
  | nil =>
    have : xs = [] := List.eq_nil_of_length_eq_zero k2.symm
    subst this
    exact .tu _ _ rfl (by simp)
  | cons v r =>
    cases r with
    | nil =>
      obtain ⟨x, rfl⟩ : ∃ x, xs = [x] := by
        cases xs with
        | nil => simp at k2
        | cons x l => cases l with
          | nil => exact ⟨x, rfl⟩
          | cons => simp at k2
      exact k3 0 v x rfl rfl
    | cons v' r' =>
      have hne : ¬ xs.toArray.size = 1 := by simp; simp at k2; omega
      rw [dif_neg hne]
      exact .tu _ _ (by simpa using k2) (fun i c x hc hx => k3 i c x hc (by simpa using hx))
theorem dfun_sound (hD : TDok P D) (hΓ : GamOk P Γ) (hdet : GamDet (fun _ => false) (gamR mu Γ)) (hm : P.follows .mixedOrders = true) {H J : List (Nat × Hint)} {f : FuncId} {fn : Func} {c : Code} {rs : List ResultVar} {m : Nat} {us : List T} {K X : Kn} (hf : P.funcs[f]? = some fn) (hb : fn.body = some c) (hn : fn.ntmps = m) (hr : fn.results = rs.toArray) (he : enters P f = true) (hl : us.length ≤ m)
    {c0 : Nat} (h : dfun D Γ mu H J m rs c us st K X c0) : FCalls P f us st K X c0 := by
  subst hn
  refine ⟨he, fun g w args hg hrl => calls_of_wp hf hb (wp_mono (den_sound (P := P) (b0 := ⟨st.length, c0⟩) hD hΓ hdet hm c _ _ _ h g w _ hg (RelT_init hrl hl)) ?_)⟩
  rintro e a' w' ⟨e0, g', t', st', h1, h2, h3, h4, h5⟩
  have hpost : (e0 = .ret ∨ e0 = .normal) → a'.defers = [] ∧ ∃ v, (results fn a'.tmps).run P w' = .ok v w' ∧ ∃ (g' : G) (st' : St), Good g' st' w' ∧ Step ⟨st.length, c0⟩ g st w g' st' w' ∧ ∃ r, K r st' ∧ R g' r v := fun he => by
    have h1' : dres D t' st' fn.results.toList fun l => K (resV l) st' := by
      rw [hr]
      rcases he with rfl | rfl <;> simpa [endK] using h1
    obtain ⟨x, v, k1, k2, k3⟩ := results_sound hD (K := fun v => K v st') h3 h4 h1'
    exact ⟨h4.defers, x, k2, g', st', h3, h5, v, k1, k3⟩
  cases e0 <;> cases e <;> first
    | (exact h2.elim)
    | (exact h1.elim)
    | (exact hpost (.inl rfl))
    | (exact hpost (.inr rfl))
    | skip
  obtain ⟨v, rfl, hv⟩ := h2
  exact ⟨h4.defers, g', st', h3, h5, v, _, rfl, h1, hv⟩

/-! ### Results that are given up -/
def isCells : Option Ob → Bool
  | some (.cells _) => true
  | _ => false
/-- The objects of a store that are no arrays, from the m-th on. -/
def cellIx (m : Nat) : St → Nat → List Nat
  | [], _ => []
  | o :: r, i => match decide (m ≤ i), isCells o with
    | true, true => i :: cellIx m r (i + 1)
    | _, _ => cellIx m r (i + 1)
theorem cellIx_ge {m : Nat} : ∀ {s : St} {i : Nat}, ∀ k ∈ cellIx m s i, i ≤ k ∧ m ≤ k
  | [], _, _, h => by simp [cellIx] at h
  | o :: r, i, k, h => by
    simp only [cellIx] at h
    split at h
    · rename_i hm _
      simp only [List.mem_cons] at h
      rcases h with rfl | h
      · exact ⟨Nat.le_refl _, by simpa using hm⟩
      · have := cellIx_ge k h; omega
    · have := cellIx_ge k h; omega
theorem cellIx_nodup {m : Nat} : ∀ {s : St} {i : Nat}, (cellIx m s i).Nodup
  | [], _ => List.nodup_nil
  | o :: r, i => by
    simp only [cellIx]
    split
    · refine List.nodup_cons.2 ⟨fun h => ?_, cellIx_nodup⟩
      have := (cellIx_ge _ h).1; omega
    · exact cellIx_nodup
theorem upto_mem : ∀ {n : Nat} {l : List Nat} {k : Nat}, k ∈ upto n l ↔ k < n ∨ k ∈ l
  | 0, l, k => by simp [upto]
  | n + 1, l, k => by
    simp only [upto]
    rw [upto_mem]
    simp only [List.mem_cons]
    constructor
    · rintro (h | rfl | h)
      · exact .inl (by omega)
      · exact .inl (by omega)
      · exact .inr h
    · rintro (h | h)
      · by_cases e : k = n
        · exact .inr (.inl e)
        · exact .inl (by omega)
      · exact .inr (.inr h)
theorem upto_nodup : ∀ {n : Nat} {l : List Nat}, l.Nodup → (∀ k ∈ l, n ≤ k) → (upto n l).Nodup
  | 0, l, h, _ => h
  | n + 1, l, h, hl => by
    simp only [upto]
    refine upto_nodup (List.nodup_cons.2 ⟨fun hm => ?_, h⟩) fun k hk => ?_
    · have := hl n hm; omega
    · simp only [List.mem_cons] at hk
      rcases hk with rfl | hk
      · exact Nat.le_refl _
      · have := hl k hk; omega
def settleK (m : Nat) (K : Kn) : Kn := fun r s => K (rnV s true (pos0 (upto m (cellIx m s 0))) r) (rnS s true (upto m (cellIx m s 0)))
theorem FCalls.settle {f : FuncId} {vs : List T} {K X : Kn} (h : FCalls P f vs st (settleK st.length K) X) : FCalls P f vs st K X := by
  refine ⟨h.1, fun g w args hg hr => (h.2 g w args hg hr).mono fun e w' ⟨g', st', h1, h2, h3⟩ => ?_⟩
  cases e with
  | returned x =>
    obtain ⟨r, r1, r2⟩ := h3
    obtain ⟨g2, k1, k2, k3, _⟩ := ren_ok h1 (keep := upto st.length (cellIx st.length st' 0)) (upto_nodup cellIx_nodup fun k hk => (cellIx_ge k hk).2) true
    exact ⟨g2, _, k1, h2.trans (k2 _ (fun k hk => upto_get _ _ k hk) fun k hk => absurd hk (Nat.not_lt_zero _)), _, r1, k3 _ _ r2⟩
  | panicked ch => exact ⟨g', st', h1, h2, h3⟩
  | outgrown => exact h3.elim

/-! ### Calls over a part of the store -/
mutual
def objsV : T → List Nat
  | .pt k _ => [k]
  | .oa _ k _ => [k]
  | .os _ k _ _ _ => [k]
  | .pe _ k _ _ _ => [k]
  | .ag cs => objsL cs
  | .tu cs => objsL cs
  | .fn _ xs ys => objsL xs ++ objsL ys
  | .ic _ v => objsV v
  | _ => []
def objsL : List T → List Nat
  | [] => []
  | v :: r => objsV v ++ objsL r
end
/-- The objects that one comes to. -/
def reach (s : St) : Nat → List Nat → List Nat → List Nat
  | 0, _, acc => acc
  | _, [], acc => acc
  | n + 1, k :: r, acc => match posOf acc k with
    | some _ => reach s n r acc
    | none => match rd s k with
      | some (.cells cs) => reach s n (r ++ objsL cs) (acc ++ [k])
      | some (.arr ..) => reach s n r (acc ++ [k])
      | none => reach s n r acc
/-- Where an object of the callee's lies in the caller's store, and its version there. -/
def bkPos (s : St) (ks : List Nat) (N : Nat) (fx : Nat → Bool) (i : Nat) : Option (Nat × Nat) :=
  match ks[i]? with
  | some k => match rd s k with
    | some o => some (k, match fx i with | true => obVer o | false => obVer o + 1)
    | none => none
  | none => some (N + (i - ks.length), 0)
/-- Was nothing appended to the i-th object? -/
def fxOf (c0 : Nat) (s1 : St) (i : Nat) : Bool :=
  match Nat.blt i c0, rd s1 i with
  | true, some (.arr 0 _ _) => true
  | _, _ => false
def setVer (v : Nat) : Option Ob → Option Ob
  | some (.arr _ e l) => some (.arr v e l)
  | o => o
def bkOb (s : St) (ks : List Nat) (N : Nat) (fx : Nat → Bool) (s1 : St) (i : Nat) (o : Option Ob) : Option Ob :=
  setVer (match bkPos s ks N fx i with | some p => p.2 | none => 0) (rnOb s1 false (bkPos s ks N fx) o)
/-- The callee's objects, back in the caller's store. -/
def putOld (s : St) (ks0 : List Nat) (N : Nat) (fx : Nat → Bool) (s1 : St) : List Nat → Nat → St → St
  | [], _, st => st
  | k :: r, i, st => putOld s ks0 N fx s1 r (i + 1) (st.set k (bkOb s ks0 N fx s1 i (rd s1 i)))
def newOnes (s : St) (ks : List Nat) (N : Nat) (fx : Nat → Bool) (s1 : St) : Nat → St → St
  | _, [] => []
  | i, o :: r => bkOb s ks N fx s1 i o :: newOnes s ks N fx s1 (i + 1) r
def merge (s : St) (ks : List Nat) (fx : Nat → Bool) (s1 : St) : St := putOld s ks s.length fx s1 ks 0 s ++ newOnes s ks s.length fx s1 ks.length (s1.drop ks.length)
def allLive (s : St) : List Nat → Bool
  | [] => true
  | k :: r => match rd s k with
    | some _ => allLive s r
    | none => false
/-- A call that hands on the objects that its arguments lead to; of the first c0 arrays the callee knows whether it appended to them. -/
def frameD (c0 : Nat) (C : List T → St → Kn → Kn → Prop) (vs : List T) (s : St) (K X : Kn) : Prop :=
  let ks := reach s 64 (objsL vs) []
  match nodupB ks, allLive s ks with
  | true, true => C (rnL s false (pos0 ks) vs) (rnS s false ks) (fun r s1 => K (rnV s1 false (bkPos s ks s.length (fxOf c0 s1)) r) (merge s ks (fxOf c0 s1) s1)) fun r s1 => X (rnV s1 false (bkPos s ks s.length (fxOf c0 s1)) r) (merge s ks (fxOf c0 s1) s1)
  | _, _ => False
mutual
def flatT : T → Bool
  | .int .. | .bool _ | .str _ | .cst _ | .ub | .nil => true
  | .ag cs => flatTs cs
  | .tu cs => flatTs cs
  | .ic _ v => flatT v
  | _ => false
def flatTs : List T → Bool
  | [] => true
  | v :: r => flatT v && flatTs r
end
/-- A call that is lent what its arguments lead to, and yields numbers, strings and the like. -/
def lendD (C : List T → St → Kn → Kn → Prop) (vs : List T) (s : St) (K : Kn) : Prop :=
  C (rnL s true (pos0 []) vs) [] (fun r _ => match flatT r with | true => K r s | false => False) fun _ _ => False
theorem flatTs_get : ∀ {cs : List T} {i : Nat} {c : T}, flatTs cs = true → cs[i]? = some c → flatT c = true
  | [], _, _, _, h => by simp at h
  | v :: r, 0, c, h, hc => by simp only [flatTs, Bool.and_eq_true] at h; simp at hc; subst hc; exact h.1
  | v :: r, i + 1, c, h, hc => by simp only [flatTs, Bool.and_eq_true] at h; simp at hc; exact flatTs_get h.2 hc
theorem R_flat {g g' : G} {v : T} {x : Value} (h : R g v x) : flatT v = true → R g' v x := by
  induction h with
  | int k n => intro _; exact .int k n
  | bool b => intro _; exact .bool b
  | str s => intro _; exact .str s
  | cst v => intro _; exact .cst v
  | ub b => intro _; exact .ub b
  | nil A => intro _; exact .nil A
  | ag cs xs h1 _ h3 ih => intro hf; exact .ag cs xs h1 (fun i c x hc hx => ih i c x hc hx (flatTs_get hf hc)) h3
  | tu cs xs h1 _ ih => intro hf; exact .tu cs xs h1 (fun i c x hc hx => ih i c x hc hx (flatTs_get hf hc))
  | ic t v x _ ih => intro hf; exact .ic t v x (ih hf)
  | _ => intro hf; simp [flatT] at hf
theorem RL.rn {g' : G} {s : St} {gv : Bool} {pos : Nat → Option (Nat × Nat)} {vs : List T} {args : Array Value} (h : RL g vs args) (hR : ∀ v x, R g v x → R g' (rnV s gv pos v) x) : RL g' (rnL s gv pos vs) args :=
  ⟨by rw [rnL_length]; exact h.len, fun i u x hu hx => by obtain ⟨c, c1, rfl⟩ := rnL_get hu; exact hR _ _ (h.val i c x c1 hx)⟩
theorem lendD_sound {f : FuncId} {C : List T → St → Kn → Kn → Prop} (hC : ∀ vs s K X, C vs s K X → FCalls P f vs s K X) {vs : List T} {s : St} {K X : Kn} (h : lendD C vs s K) : DCalls P f vs s K X := by
  obtain ⟨he, h⟩ := hC _ _ _ _ h
  refine ⟨he, fun g w args hg hr => ?_⟩
  obtain ⟨g0, k1, _, k3, _, _, _, k7⟩ := ren_ok hg (keep := []) List.nodup_nil true
  refine (h g0 w args k1 (hr.rn k3)).mono fun e w' ⟨g1, s1, h1, h2, h3⟩ => ?_
  have hsame : ∀ b, b < w.heap.size → w'.heap[b]? = w.heap[b]? := fun b hb => h2.block b hb fun ho => by
    obtain ⟨k, o, hk, _⟩ := k7 b ho
    simp at hk
  have hg' : Good g s w' := by
    refine ⟨fun b cs hb => ?_, fun k o ho => ?_, hg.inj, hg.old⟩
    · obtain ⟨blk, E, fr, p2, p3⟩ := hg.ro b cs hb
      exact ⟨blk, E, fr, by rw [hsame b (hg.lt_ro hb)]; exact p2, p3⟩
    · obtain ⟨oi, p1, p2, p3⟩ := hg.obj k o ho
      refine ⟨oi, p1, p2, ?_⟩
      rcases p3 with p3 | ⟨p3, blk, E, fr, p4, p5, p6, p7⟩
      · exact .inl p3
      · exact .inr ⟨p3, blk, E, fr, by rw [hsame _ (Array.getElem?_eq_some_iff.1 p4).1]; exact p4, p5, p6, p7⟩
  refine ⟨g, s, hg', GL.refl g s, fun b0 => ⟨h2.os, h2.tape, h2.output, h2.size, fun b hb _ => hsame b hb, fun _ _ h => h, fun _ h => .inl h, fun _ _ h => .inl h, fun _ _ => Kept.refl, fun _ _ => Fixd.refl⟩, ?_⟩
  cases e with
  | returned x =>
    obtain ⟨r, r1, r2⟩ := h3
    split at r1
    · rename_i hf
      exact ⟨r, r1, R_flat r2 hf⟩
    · exact r1.elim
  | panicked ch => obtain ⟨_, _, _, q, _⟩ := h3; exact q.elim
  | outgrown => exact h3.elim
end
end Go.Proofs.Ythjikjhddddplaa
