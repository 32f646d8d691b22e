/-
  The machine over typed values, 21: callees by what they are proved to yield; functions by their texts. No program in sight.
-/
import Derived.Test.YthjikjhddddplaaMQ
namespace Go.Proofs.Ythjikjhddddplaa
set_option linter.unusedVariables false
set_option linter.unusedSimpArgs false
open Go.RowKit

abbrev codeOf (fn : Func) : Code :=
  match fn.body with
  | some c => c
  | none => .skip
def argsT (shs : List Sh) (ls : List Lf) (g : prodL ls) : List T := (bldL shs (envT ls g)).1
/-- Nothing of the call's own objects is kept. -/
def settle0 (K : Kn) : Kn := fun r s => K (rnV s true (pos0 []) r) []
/-- Only the array that a function yields is kept. -/
def settleR (K : Kn) : Kn := fun r s => match r with
  | .oa _ k _ => K (rnV s true (pos0 [k]) r) (rnS s true [k])
  | _ => K (rnV s true (pos0 []) r) []
/-- An empty slice that is nowhere is an array of no room. -/
def virtR (e : El) (K : Kn) : Kn := fun r s => match r with
  | .nil => K (.oa e s.length 0) (addArr s e)
  | r => K r s
/-- What a function is proved to yield: its arguments' shapes and leaves, when, and what. -/
structure Sp where
  shs : List Sh
  ls : List Lf
  pre : prodL ls → Prop
  res : prodL ls → T
  ob : prodL ls → Option Ob
/-- The object that is new. -/
def obL : Option Ob → St
  | some o => [some o]
  | none => []
def Sp.run (c : Sp) (vs : List T) (s : St) (K : Kn) : Prop :=
  match collectL c.shs vs with
  | some l => typed c.ls l fun g => c.pre g ∧ K (rnV (obL (c.ob g)) false (bkPos s [] s.length (fxOf 0 (obL (c.ob g)))) (c.res g)) (merge s [] (fxOf 0 (obL (c.ob g))) (obL (c.ob g)))
  | none => False
def Sp.lend (c : Sp) (vs : List T) (s : St) (K : Kn) : Prop :=
  match collectL c.shs (rnL s true (pos0 []) vs) with
  | some l => typed c.ls l fun g => c.pre g ∧ K (c.res g) s
  | none => False
structure Sp.Ok (P : Program) (f : FuncId) (b : Bool) (c : Sp) : Prop where
  calls : ∀ (g : prodL c.ls) (K X : Kn), c.pre g → K (c.res g) (obL (c.ob g)) → FCalls P f (argsT c.shs c.ls g) [] K X
  args : ∀ (g : prodL c.ls) (s : St) (pos : Nat → Option (Nat × Nat)), rnL s false pos (argsT c.shs c.ls g) = argsT c.shs c.ls g
  objs : ∀ (g : prodL c.ls), objsL (argsT c.shs c.ls g) = []
  flat : b = true → ∀ (g : prodL c.ls), flatT (c.res g) = true ∧ c.ob g = none
/-- A callee by its text, over a store: its arguments' and its objects' shapes. -/
structure Raw where
  shs : List Sh
  obs : List ObSh
  ls : List Lf
  c0 : Nat
  F : prodL ls → Kn → Kn → Prop
def storeT (shs : List Sh) (obs : List ObSh) (ls : List Lf) (g : prodL ls) : St := (bldS obs (bldL shs (envT ls g)).2).1
def Raw.C (r : Raw) (vs : List T) (s : St) (K X : Kn) : Prop :=
  match collectL r.shs vs, collectS r.obs s with
  | some a, some b => typed r.ls (a ++ b) fun g => r.F g K X
  | _, _ => False
abbrev Raw.Ok (P : Program) (f : FuncId) (r : Raw) : Prop := ∀ (g : prodL r.ls) (K X : Kn), r.F g K X → FCalls P f (argsT r.shs r.ls g) (storeT r.shs r.obs r.ls g) K X r.c0
/-- All that a function's result and its caller's objects lead to is kept. -/
def settleD (m c0 : Nat) (K : Kn) : Kn := fun r s =>
  match nodupB (reach s 64 (upto m (objsV r)) []), decide ((reach s 64 (upto m (objsV r)) []).take m = upto m []), Nat.ble c0 m, fix0 c0 s with
  | true, true, true, true => K (rnV s true (pos0 (reach s 64 (upto m (objsV r)) [])) r) (rnS s true (reach s 64 (upto m (objsV r)) []))
  | _, _, _, _ => False
def isRaw : List (FuncId × Raw) → FuncId → Bool
  | [], _ => false
  | (f', _) :: r, f => match decide (f = f') with
    | true => true
    | false => isRaw r f
def gamOf : List (FuncId × Bool × Sp) → Gam
  | [], _, _, _, _, _ => False
  | (f', b, c) :: r, f, vs, s, K, X => match decide (f = f') with
    | true => match b with
      | true => c.lend vs s K
      | false => c.run vs s K
    | false => gamOf r f vs s K X
section
variable {P : Program} {f : FuncId} {c : Sp} {vs : List T} {s : St} {K X : Kn} {b : Bool}
theorem FCalls.settle0 (h : FCalls P f vs [] (settle0 K) X) : FCalls P f vs [] K X := by
  refine ⟨h.1, fun g w args hg hr => (h.2 g w args hg hr).mono fun e w' ⟨g', st', h1, h2, h3⟩ => ?_⟩
  cases e with
  | returned x =>
    obtain ⟨r, r1, r2⟩ := h3
    obtain ⟨g2, k1, k2, k3, _⟩ := ren_ok h1 (keep := []) List.nodup_nil true
    exact ⟨g2, _, k1, h2.trans (k2 _ (fun k hk => absurd hk (Nat.not_lt_zero _)) fun k hk => absurd hk (Nat.not_lt_zero _)), _, r1, k3 _ _ r2⟩
  | panicked ch => exact ⟨g', st', h1, h2, h3⟩
  | outgrown => exact h3.elim
theorem FCalls.settleR (h : FCalls P f vs [] (settleR K) X) : FCalls P f vs [] K X := by
  refine ⟨h.1, fun g w args hg hr => (h.2 g w args hg hr).mono fun e w' ⟨g', st', h1, h2, h3⟩ => ?_⟩
  cases e with
  | returned x =>
    obtain ⟨r, r1, r2⟩ := h3
    unfold Go.Proofs.Ythjikjhddddplaa.settleR at r1
    split at r1
    · rename_i e k ver
      obtain ⟨g2, k1, k2, k3, _⟩ := ren_ok h1 (keep := [k]) (by simp) true
      exact ⟨g2, _, k1, h2.trans (k2 _ (fun k hk => absurd hk (Nat.not_lt_zero _)) fun k hk => absurd hk (Nat.not_lt_zero _)), _, r1, k3 _ _ r2⟩
    · obtain ⟨g2, k1, k2, k3, _⟩ := ren_ok h1 (keep := []) List.nodup_nil true
      exact ⟨g2, _, k1, h2.trans (k2 _ (fun k hk => absurd hk (Nat.not_lt_zero _)) fun k hk => absurd hk (Nat.not_lt_zero _)), _, r1, k3 _ _ r2⟩
  | panicked ch => exact ⟨g', st', h1, h2, h3⟩
  | outgrown => exact h3.elim
theorem FCalls.virtR {e0 : El} (h : FCalls P f vs [] (virtR e0 K) X) : FCalls P f vs [] K X := by
  refine ⟨h.1, fun g w args hg hr => (h.2 g w args hg hr).mono fun e w' ⟨g', st', h1, h2, h3⟩ => ?_⟩
  cases e with
  | returned x =>
    obtain ⟨r, r1, r2⟩ := h3
    unfold Go.Proofs.Ythjikjhddddplaa.virtR at r1
    split at r1
    · obtain ⟨g2, k1, k2, k3, k4⟩ := good_virt h1 e0
      exact ⟨g2, _, k1, h2.trans (k3 _), _, r1, k4 _ r2⟩
    · exact ⟨g', st', h1, h2, _, r1, r2⟩
  | panicked ch => exact ⟨g', st', h1, h2, h3⟩
  | outgrown => exact h3.elim
theorem FCalls.settleD {s : St} {c0 : Nat} (h : FCalls P f vs s (settleD s.length c0 K) X c0) : FCalls P f vs s K X c0 := by
  refine ⟨h.1, fun g w args hg hr => (h.2 g w args hg hr).mono fun e w' ⟨g', st', h1, h2, h3⟩ => ?_⟩
  cases e with
  | returned x =>
    obtain ⟨r, r1, r2⟩ := h3
    unfold Go.Proofs.Ythjikjhddddplaa.settleD at r1
    generalize reach st' 64 (upto s.length (objsV r)) [] = ks at r1
    split at r1
    · rename_i hn ht hle hfx
      have ht := of_decide_eq_true ht
      have hle := Nat.le_of_ble_eq_true hle
      have hat : ∀ k, k < s.length → ks[k]? = some k := fun k hk => by
        have : (ks.take s.length)[k]? = some k := by rw [ht]; exact upto_get _ _ k hk
        rwa [List.getElem?_take_of_lt hk] at this
      obtain ⟨g2, k1, k2, k3, _⟩ := ren_ok h1 (keep := ks) (nodupB_ok hn) true
      exact ⟨g2, _, k1, h2.trans (k2 _ hat fun k hk => ⟨hat k (Nat.lt_of_lt_of_le hk hle), fix0_ok hfx k hk⟩), _, r1, k3 _ _ r2⟩
    · exact r1.elim
  | panicked ch => exact ⟨g', st', h1, h2, h3⟩
  | outgrown => exact h3.elim
theorem RL.weak {g : G} {us : List T} {args : Array Value} (h : RL g vs args) (hw : WeakL vs us) : RL g us args :=
  ⟨by rw [hw.1]; exact h.len, fun i u x hu hx => by
    obtain ⟨v, v1, v2⟩ := hw.2 i u hu
    exact v2 g x (h.val i v x v1 hx)⟩
theorem DCalls.weak {us : List T} (h : DCalls P f us s K X) (hw : WeakL vs us) : DCalls P f vs s K X :=
  ⟨h.1, fun g w args hg hr => h.2 g w args hg (hr.weak hw)⟩
theorem typed_some {ls : List Lf} {l : List T} {W : prodL ls → Prop} (h : typed ls l W) : ∃ g, W g ∧ All2 Wk l (envT ls g) ∧ ∀ W' : prodL ls → Prop, W' g → typed ls l W' := by
  induction ls generalizing l with
  | nil =>
    cases l with
    | nil => exact ⟨(), h, .nil, fun W' h => h⟩
    | cons => exact h.elim
  | cons a r ih =>
    cases l with
    | nil => exact h.elim
    | cons v vs =>
      simp only [typed] at h
      split at h
      · rename_i x hx
        obtain ⟨g, g1, g2, g3⟩ := ih h
        exact ⟨(x, g), g1, .cons (Lf.get_ok hx) g2, fun W' h' => by simp only [typed, hx]; exact g3 _ h'⟩
      · exact h.elim
theorem coll_some {shs : List Sh} {ls : List Lf} {vs : List T} {W : prodL ls → Prop} (h : match collectL shs vs with | some l => typed ls l W | none => False) :
    ∃ g, W g ∧ WeakL vs (argsT shs ls g) ∧ ∀ W' : prodL ls → Prop, W' g → (match collectL shs vs with | some l => typed ls l W' | none => False) := by
  cases hl : collectL shs vs with
  | none => rw [hl] at h; exact h.elim
  | some l =>
    rw [hl] at h
    obtain ⟨g, g1, g3, g4⟩ := typed_some h
    have := (bldL_ok [] hl g3).2
    rw [List.append_nil] at this
    exact ⟨g, g1, this, g4⟩
theorem Sp.Ok.run_ok (hc : c.Ok P f b) (h : c.run vs s K) : DCalls P f vs s K X := by
  obtain ⟨g, ⟨g1, g2⟩, g3, _⟩ := coll_some h
  refine DCalls.weak ?_ g3
  refine frameD_sound (c0 := 0) (C := fun vs' s' K' X' => vs' = argsT c.shs c.ls g ∧ s' = [] ∧ K' (c.res g) (obL (c.ob g))) (fun vs' s' K' X' ⟨e1, e2, e3⟩ => by subst e1; subst e2; exact hc.calls g K' X' g1 e3) ?_
  have hk : reach s 64 (objsL (argsT c.shs c.ls g)) [] = [] := by rw [hc.objs]; rfl
  unfold frameD
  simp only [hk]
  exact ⟨hc.args g s _, rfl, g2⟩
theorem Sp.Ok.lend_ok (hc : c.Ok P f true) (h : c.lend vs s K) : DCalls P f vs s K X := by
  unfold Sp.lend at h
  obtain ⟨g, ⟨g1, g2⟩, g3, _⟩ := coll_some h
  obtain ⟨f1, f2⟩ := hc.flat rfl g
  have hD : lendD (fun vs' s' K' X' => WeakL vs' (argsT c.shs c.ls g) ∧ s' = [] ∧ K' (c.res g) []) vs s K := by
    unfold lendD
    refine ⟨g3, rfl, ?_⟩
    show (match flatT (c.res g) with | true => K (c.res g) s | false => False)
    rw [f1]
    exact g2
  exact lendD_sound (fun vs' s' K' X' ⟨e1, e2, e3⟩ => by
    subst e2
    have := hc.calls g K' X' g1 (by rw [f2]; exact e3)
    exact ⟨this.1, fun g w args hg hr => this.2 g w args hg (hr.weak e1)⟩) hD
theorem merge_ob (fx : Nat → Bool) (o : Option Ob) : merge s [] fx (obL o) = s ∨ ∃ o', merge s [] fx (obL o) = s ++ [some o'] := by
  cases o with
  | none => left; simp [obL, merge, putOld, newOnes]
  | some o =>
    right
    have : merge s [] fx (obL (some o)) = s ++ [bkOb s [] s.length fx [some o] 0 (some o)] := by simp [obL, merge, putOld, newOnes]
    rw [this]
    unfold bkOb
    cases o with
    | cells cs => exact ⟨_, rfl⟩
    | arr ver e l => exact ⟨_, rfl⟩
theorem Det.ob {w : Bool} {F : (T → St → Prop) → Prop} {v : T} {fx : Nat → Bool} {o : Option Ob} (h : K v (merge s [] fx (obL o))) (hF : ∀ K' : Kn, K' v (merge s [] fx (obL o)) → F K') : Det w s F K := by
  refine ⟨v, _, h, hF, ?_⟩
  rcases merge_ob (s := s) fx o with e | ⟨o', e⟩
  · exact .inl e
  · exact .inr (.inl ⟨o', e⟩)
theorem gamOf_ok : ∀ {l : List (FuncId × Bool × Sp)}, (∀ p ∈ l, p.2.2.Ok P p.1 p.2.1) → GamOk P (gamOf l)
  | [], _, f, vs, s, K, X, h => h.elim
  | (f', b, c) :: r, hl, f, vs, s, K, X, h => by
    simp only [gamOf] at h
    split at h
    · rename_i hd
      obtain rfl := of_decide_eq_true hd
      have hc := hl (f, b, c) (by simp)
      cases b with
      | true => exact hc.lend_ok h
      | false => exact hc.run_ok h
    · exact gamOf_ok (fun p hp => hl p (by simp [hp])) f vs s K X h
theorem Raw.Ok.C_ok {r : Raw} (hr : r.Ok P f) (h : r.C vs s K X) : FCalls P f vs s K X r.c0 := by
  unfold Raw.C at h
  split at h
  case h_2 => exact h.elim
  rename_i a b ha hb
  obtain ⟨g, g1, g2, _⟩ := typed_some h
  obtain ⟨u1, u2, he, k1, k2⟩ := g2.append_inv
  obtain ⟨h1, h2⟩ := bldL_ok u2 ha k1
  obtain ⟨_, h3, h4⟩ := bldS_ok [] hb k2
  rw [List.append_nil] at h3 h4
  have hF := hr g K X g1
  unfold argsT storeT at hF
  rw [he, h1] at hF
  refine ⟨hF.1, fun g0 w args hg hrl => ?_⟩
  obtain ⟨q1, q2⟩ := good_weak hg h3 h4
  refine (hF.2 g0 w args q1 (hrl.weak h2)).mono fun e w' ⟨g', st', p1, p2, p3⟩ => ?_
  rw [h3] at p2
  exact ⟨g', st', p1, (q2 _).trans p2, p3⟩
/-- Callees by their texts, and by what they yield. -/
def gamX (rs : List (FuncId × Raw)) (l : List (FuncId × Bool × Sp)) : Gam := fun f vs s K X =>
  match rs with
  | [] => gamOf l f vs s K X
  | (f', r) :: rs => match decide (f = f') with
    | true => frameD r.c0 r.C vs s K X
    | false => gamX rs l f vs s K X
theorem gamX_ok : ∀ {rs : List (FuncId × Raw)} {l : List (FuncId × Bool × Sp)}, (∀ p ∈ rs, p.2.Ok P p.1) → (∀ p ∈ l, p.2.2.Ok P p.1 p.2.1) → GamOk P (gamX rs l)
  | [], l, _, hl, f, vs, s, K, X, h => gamOf_ok hl f vs s K X (by simpa [gamX] using h)
  | (f', r) :: rs, l, hr, hl, f, vs, s, K, X, h => by
    simp only [gamX] at h
    split at h
    · rename_i hd
      obtain rfl := of_decide_eq_true hd
      exact frameD_sound (fun vs s K X h => (hr (f, r) (by simp)).C_ok h) h
    · exact gamX_ok (fun p hp => hr p (by simp [hp])) hl f vs s K X h
theorem gamOf_det : ∀ {l : List (FuncId × Bool × Sp)}, GamDet (fun _ => false) (gamOf l)
  | [], f, vs, s, K, h => h.elim
  | (f', b, c) :: r, f, vs, s, K, h => by
    simp only [gamOf] at h
    split at h
    · rename_i hd
      cases b with
      | true =>
        obtain ⟨g, ⟨g1, g2⟩, _, g4⟩ := coll_some h
        exact .same g2 fun K' h' => by simp only [gamOf, hd]; exact g4 _ ⟨g1, h'⟩
      | false =>
        obtain ⟨g, ⟨g1, g2⟩, _, g4⟩ := coll_some h
        exact .ob g2 fun K' h' => by simp only [gamOf, hd]; exact g4 _ ⟨g1, h'⟩
    · rename_i hd
      obtain ⟨v, s', h1, h2, h3⟩ := gamOf_det f vs s K h
      exact ⟨v, s', h1, fun K' h' => by simp only [gamOf, hd]; exact h2 K' h', h3⟩
end
theorem gamX_det {l : List (FuncId × Bool × Sp)} : ∀ {rs : List (FuncId × Raw)}, GamDet (fun _ => false) (gamR (isRaw rs) (gamX rs l)) := by
  have key : ∀ (rs : List (FuncId × Raw)) (f : FuncId), isRaw rs f = false → gamX rs l f = gamOf l f := by
    intro rs
    induction rs with
    | nil => intro f _; rfl
    | cons p rs ih =>
      intro f hf
      obtain ⟨f', r⟩ := p
      simp only [isRaw] at hf
      split at hf
      · cases hf
      · rename_i hd
        funext vs s K X
        simp only [gamX, hd]
        rw [ih f hf]
  intro rs f vs s K h
  unfold gamR at h ⊢
  cases hf : isRaw rs f with
  | true => rw [hf] at h; exact h.elim
  | false =>
    rw [hf] at h
    simp only [key rs f hf] at h ⊢
    exact gamOf_det f vs s K h
/-! ### Results, said weaker -/
def wkK (K : Kn) : Kn := fun r s => ∃ r', Weak r r' ∧ K r' s
theorem FCalls.weak {P : Program} {f : FuncId} {vs : List T} {s : St} {K X : Kn} (h : FCalls P f vs s (wkK K) X) : FCalls P f vs s K X := by
  refine ⟨h.1, fun g w args hg hr => (h.2 g w args hg hr).mono fun e w' ⟨g', st', h1, h2, h3⟩ => ?_⟩
  cases e with
  | returned x =>
    obtain ⟨r, ⟨r', r1, r2⟩, r3⟩ := h3
    exact ⟨g', st', h1, h2, r', r2, r1 _ _ r3⟩
  | panicked ch => exact ⟨g', st', h1, h2, h3⟩
  | outgrown => exact h3.elim
theorem Weak.refl (v : T) : Weak v v := fun _ _ h => h
theorem Weak.sl (b : Bool) (e : El) (l : List (ty e)) : Weak (.sl b e l) (.sl false e l) := fun g x h => by
  cases h with
  | sl _ _ _ A c h1 h2 h3 h4 => exact .sl false e l A c h1 h2 (by simp) h4
theorem Weak.nil (e : El) : Weak .nil (.sl false e []) := fun g x h => h.wk (.nil e)
theorem WeakL.cons {v u : T} {vs us : List T} (h : Weak v u) (k : WeakL vs us) : WeakL (v :: vs) (u :: us) :=
  ⟨by simp [k.1], fun i w hw => by
    cases i with
    | zero => simp at hw; subst hw; exact ⟨v, rfl, h⟩
    | succ i => simp at hw ⊢; exact k.2 i w hw⟩
theorem WeakL.nil : WeakL [] [] := ⟨rfl, fun i w hw => by simp at hw⟩
theorem WeakL.at {vs us : List T} (k : WeakL vs us) {g : G} {xs : Array Value} (h : ∀ (i : Nat) (c : T) (x : Value), vs[i]? = some c → xs[i]? = some x → R g c x) : ∀ (i : Nat) (c : T) (x : Value), us[i]? = some c → xs[i]? = some x → R g c x := by
  intro i c x hc hx
  obtain ⟨v, v1, v2⟩ := k.2 i c hc
  exact v2 g x (h i v x v1 hx)
theorem Weak.tu {vs us : List T} (k : WeakL vs us) : Weak (.tu vs) (.tu us) := by
  intro g x h
  cases h with
  | tu _ xs h1 h2 => exact .tu us xs (by rw [← h1]; exact k.1) (k.at h2)
theorem Weak.ag {vs us : List T} (k : WeakL vs us) : Weak (.ag vs) (.ag us) := by
  intro g x h
  cases h with
  | ag _ xs h1 h2 h3 => exact .ag us xs (by rw [← h1]; exact k.1) (k.at h2) h3
theorem wkK.same {K : Kn} {r : T} {s : St} (h : K r s) : wkK K r s := ⟨r, .refl r, h⟩
theorem wkK.sl {K : Kn} {b : Bool} {e : El} {l : List (ty e)} {s : St} (h : K (.sl false e l) s) : wkK K (.sl b e l) s := ⟨_, .sl b e l, h⟩
theorem wkK.nil {K : Kn} (e : El) {s : St} (h : K (.sl false e []) s) : wkK K .nil s := ⟨_, .nil e, h⟩
/-! ### Loops, by a measure -/
theorem LoopW.of {γ : Type} {body : (γ → Prop) → γ → Prop} (I : γ → Prop) (m : γ → Nat) (hI : ∀ g, I g → ∀ W : γ → Prop, (∀ g', I g' → m g' < m g → W g') → body W g) {g : γ} (h : I g) : LoopW body g := by
  have key : ∀ n g, I g → m g < n → loopN body n g := by
    intro n
    induction n with
    | zero => intro g _ h; exact absurd h (Nat.not_lt_zero _)
    | succ n ih => intro g hg hm; exact hI g hg _ fun g' h1 h2 => ih g' h1 (by omega)
  exact ⟨m g + 1, key _ g h (Nat.lt_succ_self _)⟩
end Go.Proofs.Ythjikjhddddplaa
