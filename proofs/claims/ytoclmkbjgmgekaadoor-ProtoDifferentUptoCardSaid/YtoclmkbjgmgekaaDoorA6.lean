import Derived.Test.YtoclmkbjgmgekaaDoorA5
import Derived.Test.YtoclmkbjgmgekaaDoorRows
import Derived.DataReads
import Derived.JoinedCond
import Derived.OpenShut
import Derived.ReadAgain
import Derived.RowKit3
import Derived.RowKit
/-
  The machine over typed values, 20: what the machine knows of a type, type by type. No program in sight.
-/
namespace Go.Proofs.YtoclmkbjgmgekaaDoor
set_option linter.unusedVariables false
set_option linter.unusedSimpArgs false
set_option linter.unusedSectionVars false
open Go.RowKit
variable {P : Program}

def leafEq : List Nat → List Value → List Value → Option Bool
  | [], [], [] => some true
  | 0 :: ks, .int k a :: r, .int k' b :: q => if k = k' then (leafEq ks r q).map (decide (a = b) && ·) else none
  | 1 :: ks, .bool a :: r, .bool b :: q => (leafEq ks r q).map (decide (a = b) && ·)
  | 2 :: ks, .string a :: r, .string b :: q => (leafEq ks r q).map (decide (a = b) && ·)
  | _, _, _ => none
theorem bytes_beq (x y : ByteArray) : (x == y) = decide (x = y) := by
  obtain ⟨x⟩ := x
  obtain ⟨y⟩ := y
  rw [Bool.eq_iff_iff, decide_eq_true_iff, ByteArray.mk.injEq]
  exact (beq_iff_eq (α := Array UInt8) (a := x) (b := y))
section
variable {P : Program} {t : TypeId}
theorem leafEq_of {g : G P} : ∀ {ks : List Nat} {xs ys : List T} {vs us : List Value} {b : Bool}, eqCells ks xs ys = some b → xs.length = vs.length → ys.length = us.length → (∀ (i : Nat) (c : T) (x : Value), xs[i]? = some c → vs[i]? = some x → R g c x) → (∀ (i : Nat) (c : T) (x : Value), ys[i]? = some c → us[i]? = some x → R g c x) → leafEq ks vs us = some b := by
  intro ks
  induction ks with
  | nil =>
    intro xs ys vs us b h h1 h2 _ _
    cases xs <;> cases ys <;> simp [eqCells] at h
    cases vs <;> cases us <;> simp at h1 h2
    subst h
    rfl
  | cons k ks ih =>
    intro xs ys vs us b h h1 h2 h3 h4
    cases xs with
    | nil => unfold eqCells at h; (repeat' split at h) <;> simp_all
    | cons x xs =>
      cases ys with
      | nil => unfold eqCells at h; (repeat' split at h) <;> simp_all
      | cons y ys =>
        cases vs with
        | nil => simp at h1
        | cons v vs =>
          cases us with
          | nil => simp at h2
          | cons u us =>
            have r1 := h3 0 x v rfl rfl
            have r2 := h4 0 y u rfl rfl
            have hrec := fun b h => ih (xs := xs) (ys := ys) (vs := vs) (us := us) (b := b) h (by simpa using h1) (by simpa using h2) (fun i c x hc hx => h3 (i + 1) c x (by simpa using hc) (by simpa using hx)) (fun i c x hc hx => h4 (i + 1) c x (by simpa using hc) (by simpa using hx))
            unfold eqCells at h
            split at h
            · rename_i e _ _; cases e
            · rename_i ks' k1 a r k2 b' q e1 e2 e3
              cases e1; cases e2; cases e3
              cases r1; cases r2
              split at h
              · rename_i hk
                obtain ⟨c, hc, hb⟩ := Option.map_eq_some_iff.1 h
                simp only [leafEq, if_pos (of_decide_eq_true hk), hrec c hc, Option.map_some, hb]
              · cases h
            · rename_i ks' a r b' q e1 e2 e3
              cases e1; cases e2; cases e3
              cases r1; cases r2
              obtain ⟨c, hc, hb⟩ := Option.map_eq_some_iff.1 h
              simp only [leafEq, hrec c hc, Option.map_some, hb]
            · rename_i ks' a r b' q e1 e2 e3
              cases e1; cases e2; cases e3
              cases r1; cases r2
              obtain ⟨c, hc, hb⟩ := Option.map_eq_some_iff.1 h
              simp only [leafEq, hrec c hc, Option.map_some, hb]
            · cases h
theorem leaf0 {ks : List Nat} {vs us : List Value} {b : Bool} (h : leafEq (0 :: ks) vs us = some b) : ∃ k x r y q c, vs = .int k x :: r ∧ us = .int k y :: q ∧ leafEq ks r q = some c ∧ b = ((x == y) && c) := by
  cases vs with
  | nil => simp [leafEq] at h
  | cons v r =>
    cases us with
    | nil => cases v <;> simp [leafEq] at h
    | cons u q =>
      cases v <;> cases u <;> first | (simp [leafEq] at h; done) | skip
      simp only [leafEq] at h
      split at h
      · rename_i hk
        subst hk
        obtain ⟨c, hc, hb⟩ := Option.map_eq_some_iff.1 h
        exact ⟨_, _, _, _, _, c, rfl, rfl, hc, hb.symm⟩
      · cases h
theorem leaf1 {ks : List Nat} {vs us : List Value} {b : Bool} (h : leafEq (1 :: ks) vs us = some b) : ∃ x r y q c, vs = .bool x :: r ∧ us = .bool y :: q ∧ leafEq ks r q = some c ∧ b = ((x == y) && c) := by
  cases vs with
  | nil => simp [leafEq] at h
  | cons v r =>
    cases us with
    | nil => cases v <;> simp [leafEq] at h
    | cons u q =>
      cases v <;> cases u <;> first | (simp [leafEq] at h; done) | skip
      simp only [leafEq] at h
      obtain ⟨c, hc, hb⟩ := Option.map_eq_some_iff.1 h
      exact ⟨_, _, _, _, c, rfl, rfl, hc, hb.symm⟩
theorem leaf2 {ks : List Nat} {vs us : List Value} {b : Bool} (h : leafEq (2 :: ks) vs us = some b) : ∃ x r y q c, vs = .string x :: r ∧ us = .string y :: q ∧ leafEq ks r q = some c ∧ b = ((x == y) && c) := by
  cases vs with
  | nil => simp [leafEq] at h
  | cons v r =>
    cases us with
    | nil => cases v <;> simp [leafEq] at h
    | cons u q =>
      cases v <;> cases u <;> first | (simp [leafEq] at h; done) | skip
      simp only [leafEq] at h
      obtain ⟨c, hc, hb⟩ := Option.map_eq_some_iff.1 h
      refine ⟨_, _, _, _, c, rfl, rfl, hc, ?_⟩
      rw [← hb, bytes_beq]
theorem leafN {vs us : List Value} {b : Bool} (h : leafEq [] vs us = some b) : vs = [] ∧ us = [] ∧ b = true := by
  cases vs <;> cases us <;> simp [leafEq] at h
  exact ⟨rfl, rfl, h⟩
theorem eqV_arr {t e : TypeId} {n d : Nat} {i : TypeInfo} {xs ys : List Value} (hu : P.underlying t = some (.array n e)) (hi : P.info? e = some i) : eqV P (d + 1) t xs ys = eqIs (eqV P d e) i.size xs ys (List.range' 0 n) := by
  simp only [eqV, hu, hi]
/-- Rows of integers. -/
theorem eqIs_leaf {e : TypeId} {q : IntKind} {d : Nat} (he : P.underlying e = some (.int q)) : ∀ (n j : Nat) (pa pb vs us : List Value) (b : Bool), pa.length = j → pb.length = j → leafEq (List.replicate n 0) vs us = some b → eqIs (eqV P (d + 1) e) 1 (pa ++ vs) (pb ++ us) (List.range' j n) = some b
  | 0, j, pa, pb, vs, us, b, _, _, h => by
    obtain ⟨_, _, rfl⟩ := leafN h
    rfl
  | n + 1, j, pa, pb, vs, us, b, ha, hb, h => by
    rw [List.replicate_succ] at h
    obtain ⟨k, x, r, y, s, c, rfl, rfl, h1, rfl⟩ := leaf0 h
    rw [List.range'_succ, eqIs]
    have e1 : ((pa ++ Value.int k x :: r).drop (j * 1)).take 1 = [.int k x] := by rw [Nat.mul_one, ← ha, List.drop_left]; rfl
    have e2 : ((pb ++ Value.int k y :: s).drop (j * 1)).take 1 = [.int k y] := by rw [Nat.mul_one, ← hb, List.drop_left]; rfl
    have e3 := eqIs_leaf (d := d) he n (j + 1) (pa ++ [.int k x]) (pb ++ [.int k y]) r s c (by simp [ha]) (by simp [hb]) h1
    rw [List.append_assoc, List.append_assoc] at e3
    simp only [List.cons_append, List.nil_append] at e3
    rw [e1, e2, e3]
    simp [eqV, he]
/-- A type of one cell. -/
theorem TIok.one {d : TypeDesc} {i : TypeInfo} {ti : TI} {z : T} (hu : P.underlying t = some d) (hi : P.info? t = some i) (ha : ti.agg = false) (ha' : aggDesc d = false) (hs : srtOk P d ti.srt) (h1 : i.size = ti.size) (h2 : i.bytes = ti.bytes) (hz : ti.zero = some [z])
    {x : Value} (h3 : i.zero = some x) (h4 : cellsOf (tval x) = some ([z].map unfp)) (hW : cellW [z] t 1 = true) (h5 : ti.size = 1) (h6 : ti.agg = false → x.oneCell' = true) (hel : ∀ e, ti.el = some e → sz e = ti.size ∧ 0 < ti.bytes) (helt : ∀ e, ti.el = some e → elTy e t = true) (he : ti.eqs = none) : TIok P t ti :=
  ⟨⟨d, hu, by rw [ha, ha'], hs⟩, ⟨i, hi, h1, h2, fun z' hz' => by rw [hz] at hz'; injection hz' with hz'; subst hz'; exact ⟨⟨x, h3, h4, hW⟩, by rw [h5]; rfl⟩⟩, hel, helt, fun ha _ i' x' e1 e2 => (by rw [hi] at e1; injection e1 with e1; subst e1; rw [h3] at e2; injection e2 with e2; subst e2; exact h6 ha), fun ks hks => by rw [he] at hks; cases hks⟩
theorem TIok.none {d : TypeDesc} {i : TypeInfo} {ti : TI} (hu : P.underlying t = some d) (hi : P.info? t = some i) (ha : aggDesc d = ti.agg) (hs : srtOk P d ti.srt) (h1 : i.size = ti.size) (h2 : i.bytes = ti.bytes) (hz : ti.zero = Option.none)
    (hel : ∀ e, ti.el = some e → sz e = ti.size ∧ 0 < ti.bytes) (helt : ∀ e, ti.el = some e → elTy e t = true) (he : ti.eqs = Option.none) : TIok P t ti :=
  ⟨⟨d, hu, ha, hs⟩, ⟨i, hi, h1, h2, fun z' hz' => by rw [hz] at hz'; cases hz'⟩, hel, helt, fun _ hz' => (by rw [hz] at hz'; cases hz'), fun ks hks => by rw [he] at hks; cases hks⟩
theorem TIok.agg {d : TypeDesc} {i : TypeInfo} {ti : TI} {z : List T} (hu : P.underlying t = some d) (hi : P.info? t = some i) (ha : aggDesc d = ti.agg) (hs : srtOk P d ti.srt) (h1 : i.size = ti.size) (h2 : i.bytes = ti.bytes) (hz : ti.zero = some z)
    {x : Value} (h3 : i.zero = some x) (h4 : cellsOf (tval x) = some (z.map unfp)) (hW : cellW z t z.length = true) (h5 : z.length = ti.size) (h6 : ti.agg = false → x.oneCell' = true) (hel : ∀ e, ti.el = some e → sz e = ti.size ∧ 0 < ti.bytes) (helt : ∀ e, ti.el = some e → elTy e t = true)
    (he : ∀ ks, ti.eqs = some ks → P.eqGuardType P.depth t = false ∧ aggDesc d = true ∧ ∀ vs us b, leafEq ks vs us = some b → eqV P 4 t vs us = some b) : TIok P t ti := by
  refine ⟨⟨d, hu, ha, hs⟩, ⟨i, hi, h1, h2, fun z' hz' => by rw [hz] at hz'; injection hz' with hz'; subst hz'; exact ⟨⟨x, h3, h4, hW⟩, h5⟩⟩, hel, helt, fun ha _ i' x' e1 e2 => (by rw [hi] at e1; injection e1 with e1; subst e1; rw [h3] at e2; injection e2 with e2; subst e2; exact h6 ha), fun ks hks xs ys vs us g b hl hq hx hy => ?_⟩
  obtain ⟨k1, k2, k3⟩ := he ks hks
  refine ⟨?_, k1⟩
  cases hx with
  | ag _ _ a1 a2 _ =>
    cases hy with
    | ag _ _ b1 b2 _ =>
      have hv := k3 vs.toList us.toList b (leafEq_of hq (by simpa using a1) (by simpa using b1) (fun i c x hc hx => a2 i c x hc (by simpa using hx)) fun i c x hc hx => b2 i c x hc (by simpa using hx))
      exact eqV_sound 4 t _ _ b 10000 hv (by omega) _ _ (by unfold mkV; simp [hu, k2]) (by unfold mkV; simp [hu, k2])
end
end Go.Proofs.YtoclmkbjgmgekaaDoor

/-
  The machine over typed values, 21: callees by what they are proved to yield; functions by their texts. No program in sight.
-/
namespace Go.Proofs.YtoclmkbjgmgekaaDoor
set_option linter.unusedVariables false
set_option linter.unusedSimpArgs false
set_option linter.unusedSectionVars false
open Go.RowKit
variable {P : Program}

abbrev codeOf (fn : Func) : Code :=
  match fn.body with
  | some c => c
  | none => .skip
def argsT (shs : List Sh) (ls : List Lf) (g : prodL ls) : List T := (bldL shs (envT ls g)).1
/-- Nothing of the call's own objects is kept. -/
def settle0 (K : Kn) : Kn := fun r s => K (rnV s true (pos0 []) r) []
/-- Only the array that a function yields is kept. -/
def settleR (K : Kn) : Kn := fun r s => match r with
  | .oa _ k _ => K (rnV s true (pos0 [k]) r) (rnS s true [k])
  | .os _ k _ _ _ => K (rnV s true (pos0 [k]) r) (rnS s true [k])
  | _ => K (rnV s true (pos0 []) r) []
/-- An empty slice that is nowhere is an array of no room. -/
def virtR (e : El) (K : Kn) : Kn := fun r s => match r with
  | .nil => K (.oa e s.length 0) (addArr s e)
  | r => K r s
/-- What a function is proved to yield: its arguments' shapes and leaves, when, and what. -/
structure Sp where
  shs : List Sh
  ls : List Lf
  pre : prodL ls → Prop
  res : prodL ls → T
  ob : prodL ls → Option Ob
/-- The object that is new. -/
def obL : Option Ob → St
  | some o => [some o]
  | none => []
def Sp.run (c : Sp) (vs : List T) (s : St) (K : Kn) : Prop :=
  match collectL c.shs vs with
  | some l => typed c.ls l fun g => c.pre g ∧ K (rnV (obL (c.ob g)) false (bkPos s [] s.length (fxOf 0 (obL (c.ob g)))) (c.res g)) (merge s [] (fxOf 0 (obL (c.ob g))) (obL (c.ob g)))
  | none => False
def Sp.lend (c : Sp) (vs : List T) (s : St) (K : Kn) : Prop :=
  match collectL c.shs (rnL s true (pos0 []) vs) with
  | some l => typed c.ls l fun g => c.pre g ∧ K (c.res g) s
  | none => False
structure Sp.Ok (P : Program) (f : FuncId) (b : Bool) (c : Sp) : Prop where
  calls : ∀ (g : prodL c.ls) (K X : Kn), c.pre g → K (c.res g) (obL (c.ob g)) → FCalls P f (argsT c.shs c.ls g) [] K X
  args : ∀ (g : prodL c.ls) (s : St) (pos : Nat → Option (Nat × Nat)), rnL s false pos (argsT c.shs c.ls g) = argsT c.shs c.ls g
  objs : ∀ (g : prodL c.ls), objsL (argsT c.shs c.ls g) = []
  flat : b = true → ∀ (g : prodL c.ls), flatT (c.res g) = true ∧ c.ob g = none
/-- A callee by its text, over a store: its arguments' and its objects' shapes. -/
structure Raw where
  shs : List Sh
  obs : List ObSh
  ls : List Lf
  c0 : Nat
  F : prodL ls → Kn → Kn → Prop
def storeT (shs : List Sh) (obs : List ObSh) (ls : List Lf) (g : prodL ls) : St := (bldS obs (bldL shs (envT ls g)).2).1
def Raw.C (r : Raw) (vs : List T) (s : St) (K X : Kn) : Prop :=
  match collectL r.shs vs, collectS r.obs s with
  | some a, some b => typed r.ls (a ++ b) fun g => r.F g K X
  | _, _ => False
abbrev Raw.Ok (P : Program) (f : FuncId) (r : Raw) : Prop := ∀ (g : prodL r.ls) (K X : Kn), r.F g K X → FCalls P f (argsT r.shs r.ls g) (storeT r.shs r.obs r.ls g) K X r.c0
/-- All that a function's result and its caller's objects lead to is kept. -/
def settleD (m c0 : Nat) (K : Kn) : Kn := fun r s =>
  match nodupB (reach s 64 (upto m (objsV r)) []), decide ((reach s 64 (upto m (objsV r)) []).take m = upto m []), Nat.ble c0 m, fix0 c0 s with
  | true, true, true, true => K (rnV s true (pos0 (reach s 64 (upto m (objsV r)) [])) r) (rnS s true (reach s 64 (upto m (objsV r)) []))
  | _, _, _, _ => False
/-- All that its caller's objects lead to is kept; arrays of its own that a function yields are given up. -/
def settleG (m c0 : Nat) (K : Kn) : Kn := fun r s =>
  match nodupB (reach s 64 (upto m []) []), decide ((reach s 64 (upto m []) []).take m = upto m []), Nat.ble c0 m, fix0 c0 s with
  | true, true, true, true => K (rnV s true (pos0 (reach s 64 (upto m []) [])) r) (rnS s true (reach s 64 (upto m []) []))
  | _, _, _, _ => False
def isRaw : List (FuncId × Raw) → FuncId → Bool
  | [], _ => false
  | (f', _) :: r, f => match decide (f = f') with
    | true => true
    | false => isRaw r f
def gamOf : List (FuncId × Bool × Sp) → Gam
  | [], _, _, _, _, _ => False
  | (f', b, c) :: r, f, vs, s, K, X => match decide (f = f') with
    | true => match b with
      | true => c.lend vs s K
      | false => c.run vs s K
    | false => gamOf r f vs s K X
section
variable {P : Program} {f : FuncId} {c : Sp} {vs : List T} {s : St} {K X : Kn} {b : Bool}
theorem FCalls.noX {s : St} {c0 : Nat} (h : FCalls P f vs s K (fun _ _ => False) c0) : FCalls P f vs s K X c0 := fun g w hg => (h g w hg).mono (by
  rintro e w' ⟨g', st', p1, p2, p3⟩
  refine ⟨g', st', p1, p2, ?_⟩
  cases e with
  | returned x => exact p3
  | panicked ch => obtain ⟨v, u, _, h2, _⟩ := p3; exact h2.elim
  | outgrown => exact p3)
theorem FCalls.settle0 (h : FCalls P f vs [] (settle0 K) X) : FCalls P f vs [] K X := by
  refine fun g w hg => (h g w hg).mono fun e w' ⟨g', st', h1, h2, h3⟩ => ?_
  cases e with
  | returned x =>
    obtain ⟨r, r1, r2⟩ := h3
    obtain ⟨g2, k1, k2, k3, _⟩ := ren_ok h1 (keep := []) List.nodup_nil true
    exact ⟨g2, _, k1, h2.trans (k2 _ (fun k hk => absurd hk (Nat.not_lt_zero _)) fun k hk => absurd hk (Nat.not_lt_zero _)), _, r1, k3 _ _ r2⟩
  | panicked ch => exact ⟨g', st', h1, h2, h3⟩
  | outgrown => exact h3.elim
theorem FCalls.settleR (h : FCalls P f vs [] (settleR K) X) : FCalls P f vs [] K X := by
  refine fun g w hg => (h g w hg).mono fun e w' ⟨g', st', h1, h2, h3⟩ => ?_
  cases e with
  | returned x =>
    obtain ⟨r, r1, r2⟩ := h3
    unfold Go.Proofs.YtoclmkbjgmgekaaDoor.settleR at r1
    split at r1
    · rename_i e k ver
      obtain ⟨g2, k1, k2, k3, _⟩ := ren_ok h1 (keep := [k]) (by simp) true
      exact ⟨g2, _, k1, h2.trans (k2 _ (fun k hk => absurd hk (Nat.not_lt_zero _)) fun k hk => absurd hk (Nat.not_lt_zero _)), _, r1, k3 _ _ r2⟩
    · rename_i e k ver off n
      obtain ⟨g2, k1, k2, k3, _⟩ := ren_ok h1 (keep := [k]) (by simp) true
      exact ⟨g2, _, k1, h2.trans (k2 _ (fun k hk => absurd hk (Nat.not_lt_zero _)) fun k hk => absurd hk (Nat.not_lt_zero _)), _, r1, k3 _ _ r2⟩
    · obtain ⟨g2, k1, k2, k3, _⟩ := ren_ok h1 (keep := []) List.nodup_nil true
      exact ⟨g2, _, k1, h2.trans (k2 _ (fun k hk => absurd hk (Nat.not_lt_zero _)) fun k hk => absurd hk (Nat.not_lt_zero _)), _, r1, k3 _ _ r2⟩
  | panicked ch => exact ⟨g', st', h1, h2, h3⟩
  | outgrown => exact h3.elim
theorem FCalls.virtR {e0 : El} (h : FCalls P f vs [] (virtR e0 K) X) : FCalls P f vs [] K X := by
  refine fun g w hg => (h g w hg).mono fun e w' ⟨g', st', h1, h2, h3⟩ => ?_
  cases e with
  | returned x =>
    obtain ⟨r, r1, r2⟩ := h3
    unfold Go.Proofs.YtoclmkbjgmgekaaDoor.virtR at r1
    split at r1
    · obtain ⟨g2, k1, k2, k3, k4⟩ := good_virt h1 e0
      exact ⟨g2, _, k1, h2.trans (k3 _), _, r1, k4 _ r2⟩
    · exact ⟨g', st', h1, h2, _, r1, r2⟩
  | panicked ch => exact ⟨g', st', h1, h2, h3⟩
  | outgrown => exact h3.elim
theorem FCalls.settleD {s : St} {c0 : Nat} (h : FCalls P f vs s (settleD s.length c0 K) X c0) : FCalls P f vs s K X c0 := by
  refine fun g w hg => (h g w hg).mono fun e w' ⟨g', st', h1, h2, h3⟩ => ?_
  cases e with
  | returned x =>
    obtain ⟨r, r1, r2⟩ := h3
    unfold Go.Proofs.YtoclmkbjgmgekaaDoor.settleD at r1
    generalize reach st' 64 (upto s.length (objsV r)) [] = ks at r1
    split at r1
    · rename_i hn ht hle hfx
      have ht := of_decide_eq_true ht
      have hle := Nat.le_of_ble_eq_true hle
      have hat : ∀ k, k < s.length → ks[k]? = some k := fun k hk => by
        have : (ks.take s.length)[k]? = some k := by rw [ht]; exact upto_get _ _ k hk
        rwa [List.getElem?_take_of_lt hk] at this
      obtain ⟨g2, k1, k2, k3, _⟩ := ren_ok h1 (keep := ks) (nodupB_ok hn) true
      exact ⟨g2, _, k1, h2.trans (k2 _ hat fun k hk => ⟨hat k (Nat.lt_of_lt_of_le hk hle), fix0_ok hfx k hk⟩), _, r1, k3 _ _ r2⟩
    · exact r1.elim
  | panicked ch => exact ⟨g', st', h1, h2, h3⟩
  | outgrown => exact h3.elim
theorem FCalls.settleG {s : St} {c0 : Nat} (h : FCalls P f vs s (Go.Proofs.YtoclmkbjgmgekaaDoor.settleG s.length c0 K) X c0) : FCalls P f vs s K X c0 := by
  refine fun g w hg => (h g w hg).mono fun e w' ⟨g', st', h1, h2, h3⟩ => ?_
  cases e with
  | returned x =>
    obtain ⟨r, r1, r2⟩ := h3
    unfold Go.Proofs.YtoclmkbjgmgekaaDoor.settleG at r1
    generalize reach st' 64 (upto s.length []) [] = ks at r1
    split at r1
    · rename_i hn ht hle hfx
      have ht := of_decide_eq_true ht
      have hle := Nat.le_of_ble_eq_true hle
      have hat : ∀ k, k < s.length → ks[k]? = some k := fun k hk => by
        have : (ks.take s.length)[k]? = some k := by rw [ht]; exact upto_get _ _ k hk
        rwa [List.getElem?_take_of_lt hk] at this
      obtain ⟨g2, k1, k2, k3, _⟩ := ren_ok h1 (keep := ks) (nodupB_ok hn) true
      exact ⟨g2, _, k1, h2.trans (k2 _ hat fun k hk => ⟨hat k (Nat.lt_of_lt_of_le hk hle), fix0_ok hfx k hk⟩), _, r1, k3 _ _ r2⟩
    · exact r1.elim
  | panicked ch => exact ⟨g', st', h1, h2, h3⟩
  | outgrown => exact h3.elim
/-- The same, of what it panics with. -/
theorem FCalls.settleX {s : St} {c0 : Nat} (h : FCalls P f vs s K (Go.Proofs.YtoclmkbjgmgekaaDoor.settleD s.length c0 X) c0) : FCalls P f vs s K X c0 := by
  refine fun g w hg => (h g w hg).mono fun e w' ⟨g', st', h1, h2, h3⟩ => ?_
  cases e with
  | returned x => exact ⟨g', st', h1, h2, h3⟩
  | panicked ch =>
    obtain ⟨v, r, rfl, r1, r2⟩ := h3
    unfold Go.Proofs.YtoclmkbjgmgekaaDoor.settleD at r1
    generalize reach st' 64 (upto s.length (objsV r)) [] = ks at r1
    split at r1
    · rename_i hn ht hle hfx
      have ht := of_decide_eq_true ht
      have hle := Nat.le_of_ble_eq_true hle
      have hat : ∀ k, k < s.length → ks[k]? = some k := fun k hk => by
        have : (ks.take s.length)[k]? = some k := by rw [ht]; exact upto_get _ _ k hk
        rwa [List.getElem?_take_of_lt hk] at this
      obtain ⟨g2, k1, k2, k3, _⟩ := ren_ok h1 (keep := ks) (nodupB_ok hn) true
      exact ⟨g2, _, k1, h2.trans (k2 _ hat fun k hk => ⟨hat k (Nat.lt_of_lt_of_le hk hle), fix0_ok hfx k hk⟩), v, _, rfl, r1, k3 _ _ r2⟩
    · exact r1.elim
  | outgrown => exact h3.elim
theorem RL.weak {g : G P} {us : List T} {args : Array Value} (h : RL g vs args) (hw : WeakL vs us) : RL g us args :=
  ⟨by rw [hw.1]; exact h.len, fun i u x hu hx => by
    obtain ⟨v, v1, v2⟩ := hw.2 i u hu
    exact v2 _ g x (h.val i v x v1 hx)⟩
theorem Atc.weak {g : G P} {us : List T} {w : World} {Z : Ending → World → Prop} (h : Atc P f g us w Z) (hw : WeakL vs us) : Atc P f g vs w Z :=
  h.re hw.1 (fun i u1 hu => by obtain ⟨v, v1, v2⟩ := hw.2 i u1 hu; exact ⟨v, v1, v2 _ g⟩) fun _ _ h => h
theorem DCalls.weak {us : List T} (h : DCalls P f us s K X) (hw : WeakL vs us) : DCalls P f vs s K X :=
  fun g w hg => (h g w hg).weak hw
theorem typed_some {ls : List Lf} {l : List T} {W : prodL ls → Prop} (h : typed ls l W) : ∃ g, W g ∧ All2 Wk l (envT ls g) ∧ ∀ W' : prodL ls → Prop, W' g → typed ls l W' := by
  induction ls generalizing l with
  | nil =>
    cases l with
    | nil => exact ⟨(), h, .nil, fun W' h => h⟩
    | cons => exact h.elim
  | cons a r ih =>
    cases l with
    | nil => exact h.elim
    | cons v vs =>
      simp only [typed] at h
      split at h
      · rename_i x hx
        obtain ⟨g, g1, g2, g3⟩ := ih h
        exact ⟨(x, g), g1, .cons (Lf.get_ok hx) g2, fun W' h' => by simp only [typed, hx]; exact g3 _ h'⟩
      · exact h.elim
theorem coll_some {shs : List Sh} {ls : List Lf} {vs : List T} {W : prodL ls → Prop} (h : match collectL shs vs with | some l => typed ls l W | none => False) :
    ∃ g, W g ∧ WeakL vs (argsT shs ls g) ∧ ∀ W' : prodL ls → Prop, W' g → (match collectL shs vs with | some l => typed ls l W' | none => False) := by
  cases hl : collectL shs vs with
  | none => rw [hl] at h; exact h.elim
  | some l =>
    rw [hl] at h
    obtain ⟨g, g1, g3, g4⟩ := typed_some h
    have := (bldL_ok [] hl g3).2
    rw [List.append_nil] at this
    exact ⟨g, g1, this, g4⟩
theorem Sp.Ok.run_ok (hc : c.Ok P f b) (h : c.run vs s K) : DCalls P f vs s K X := by
  obtain ⟨g, ⟨g1, g2⟩, g3, _⟩ := coll_some h
  refine DCalls.weak ?_ g3
  refine frameD_sound (c0 := 0) (C := fun vs' s' K' X' => vs' = argsT c.shs c.ls g ∧ s' = [] ∧ K' (c.res g) (obL (c.ob g))) (fun vs' s' K' X' ⟨e1, e2, e3⟩ => by subst e1; subst e2; exact hc.calls g K' X' g1 e3) ?_
  have hk : reach s 64 (objsL (argsT c.shs c.ls g)) [] = [] := by rw [hc.objs]; rfl
  unfold frameD
  simp only [hk]
  exact ⟨hc.args g s _, rfl, g2⟩
theorem Sp.Ok.lend_ok (hc : c.Ok P f true) (h : c.lend vs s K) : DCalls P f vs s K X := by
  unfold Sp.lend at h
  obtain ⟨g, ⟨g1, g2⟩, g3, _⟩ := coll_some h
  obtain ⟨f1, f2⟩ := hc.flat rfl g
  have hD : lendD (fun vs' s' K' X' => WeakL vs' (argsT c.shs c.ls g) ∧ s' = [] ∧ K' (c.res g) []) vs s K := by
    unfold lendD
    refine ⟨g3, rfl, ?_⟩
    show (match flatT (c.res g) with | true => K (c.res g) s | false => False)
    rw [f1]
    exact g2
  exact lendD_sound (fun vs' s' K' X' ⟨e1, e2, e3⟩ => by
    subst e2
    have := hc.calls g K' X' g1 (by rw [f2]; exact e3)
    exact fun g w hg => (this g w hg).weak e1) hD
theorem merge_ob (fx : Nat → Bool) (o : Option Ob) : merge s [] fx (obL o) = s ∨ ∃ o', merge s [] fx (obL o) = s ++ [some o'] := by
  cases o with
  | none => left; simp [obL, merge, putOld, newOnes]
  | some o =>
    right
    have : merge s [] fx (obL (some o)) = s ++ [bkOb s [] s.length fx [some o] 0 (some o)] := by simp [obL, merge, putOld, newOnes]
    rw [this]
    unfold bkOb
    cases o with
    | cells cs => exact ⟨_, rfl⟩
    | arr ver e l => exact ⟨_, rfl⟩
theorem Det.ob {w : Bool} {F : (T → St → Prop) → Prop} {v : T} {fx : Nat → Bool} {o : Option Ob} (h : K v (merge s [] fx (obL o))) (hF : ∀ K' : Kn, K' v (merge s [] fx (obL o)) → F K') : Det w s F K := by
  refine ⟨v, _, h, hF, ?_⟩
  rcases merge_ob (s := s) fx o with e | ⟨o', e⟩
  · exact .inl e
  · exact .inr (.inl ⟨o', e⟩)
theorem gamOf_ok : ∀ {l : List (FuncId × Bool × Sp)}, (∀ p ∈ l, p.2.2.Ok P p.1 p.2.1) → GamOk P (gamOf l)
  | [], _, f, vs, s, K, X, h => h.elim
  | (f', b, c) :: r, hl, f, vs, s, K, X, h => by
    simp only [gamOf] at h
    split at h
    · rename_i hd
      obtain rfl := of_decide_eq_true hd
      have hc := hl (f, b, c) (by simp)
      cases b with
      | true => exact hc.lend_ok h
      | false => exact hc.run_ok h
    · exact gamOf_ok (fun p hp => hl p (by simp [hp])) f vs s K X h
theorem Raw.Ok.C_ok {r : Raw} (hr : r.Ok P f) (h : r.C vs s K X) : FCalls P f vs s K X r.c0 := by
  unfold Raw.C at h
  split at h
  case h_2 => exact h.elim
  rename_i a b ha hb
  obtain ⟨g, g1, g2, _⟩ := typed_some h
  obtain ⟨u1, u2, he, k1, k2⟩ := g2.append_inv
  obtain ⟨h1, h2⟩ := bldL_ok u2 ha k1
  obtain ⟨_, h3, h4⟩ := bldS_ok [] hb k2
  rw [List.append_nil] at h3 h4
  have hF := hr g K X g1
  unfold argsT storeT at hF
  rw [he, h1] at hF
  intro g0 w hg
  obtain ⟨q1, q2⟩ := good_weak hg h3 h4
  refine Atc.weak ((hF g0 w q1).mono ?_) h2
  rintro e w' ⟨g', st', p1, p2, p3⟩
  rw [h3] at p2
  exact ⟨g', st', p1, (q2 _).trans p2, p3⟩
/-- Do a callee's shapes fit? -/
def rawFits (r : Raw) (vs : List T) (s : St) : Bool :=
  match collectL r.shs (rnL s false (pos0 (reach s 64 (objsL vs) [])) vs), collectS r.obs (rnS s false (reach s 64 (objsL vs) [])) with
  | some _, some _ => true
  | _, _ => false
/-- Callees by their texts, and by what they yield. -/
def gamX (rs : List (FuncId × Raw)) (l : List (FuncId × Bool × Sp)) : Gam := fun f vs s K X =>
  match rs with
  | [] => gamOf l f vs s K X
  | (f', r) :: rs => match decide (f = f') && rawFits r vs s with
    | true => frameD r.c0 r.C vs s K X
    | false => gamX rs l f vs s K X
theorem gamX_ok : ∀ {rs : List (FuncId × Raw)} {l : List (FuncId × Bool × Sp)}, (∀ p ∈ rs, p.2.Ok P p.1) → (∀ p ∈ l, p.2.2.Ok P p.1 p.2.1) → GamOk P (gamX rs l)
  | [], l, _, hl, f, vs, s, K, X, h => gamOf_ok hl f vs s K X (by simpa [gamX] using h)
  | (f', r) :: rs, l, hr, hl, f, vs, s, K, X, h => by
    simp only [gamX] at h
    split at h
    · rename_i hd
      rw [Bool.and_eq_true] at hd
      obtain rfl := of_decide_eq_true hd.1
      exact frameD_sound (fun vs s K X h => (hr (f, r) (by simp)).C_ok h) h
    · exact gamX_ok (fun p hp => hr p (by simp [hp])) hl f vs s K X h
theorem gamOf_det : ∀ {l : List (FuncId × Bool × Sp)}, GamDet (fun _ => false) (gamOf l)
  | [], f, vs, s, K, h => h.elim
  | (f', b, c) :: r, f, vs, s, K, h => by
    simp only [gamOf] at h
    split at h
    · rename_i hd
      cases b with
      | true =>
        obtain ⟨g, ⟨g1, g2⟩, _, g4⟩ := coll_some h
        exact .same g2 fun K' h' => by simp only [gamOf, hd]; exact g4 _ ⟨g1, h'⟩
      | false =>
        obtain ⟨g, ⟨g1, g2⟩, _, g4⟩ := coll_some h
        exact .ob g2 fun K' h' => by simp only [gamOf, hd]; exact g4 _ ⟨g1, h'⟩
    · rename_i hd
      obtain ⟨v, s', h1, h2, h3⟩ := gamOf_det f vs s K h
      exact ⟨v, s', h1, fun K' h' => by simp only [gamOf, hd]; exact h2 K' h', h3⟩
end
theorem gamX_det {l : List (FuncId × Bool × Sp)} : ∀ {rs : List (FuncId × Raw)}, GamDet (fun _ => false) (gamR (isRaw rs) (gamX rs l)) := by
  have key : ∀ (rs : List (FuncId × Raw)) (f : FuncId), isRaw rs f = false → gamX rs l f = gamOf l f := by
    intro rs
    induction rs with
    | nil => intro f _; rfl
    | cons p rs ih =>
      intro f hf
      obtain ⟨f', r⟩ := p
      simp only [isRaw] at hf
      split at hf
      · cases hf
      · rename_i hd
        funext vs s K X
        simp only [gamX, hd, Bool.false_and]
        rw [ih f hf]
  intro rs f vs s K h
  unfold gamR at h ⊢
  cases hf : isRaw rs f with
  | true => rw [hf] at h; exact h.elim
  | false =>
    rw [hf] at h
    simp only [key rs f hf] at h ⊢
    exact gamOf_det f vs s K h
/-! ### Results, said weaker -/
def wkK (K : Kn) : Kn := fun r s => ∃ r', Weak r r' ∧ K r' s
theorem FCalls.weak {P : Program} {f : FuncId} {vs : List T} {s : St} {K X : Kn} (h : FCalls P f vs s (wkK K) X) : FCalls P f vs s K X := by
  refine fun g w hg => (h g w hg).mono fun e w' ⟨g', st', h1, h2, h3⟩ => ?_
  cases e with
  | returned x =>
    obtain ⟨r, ⟨r', r1, r2⟩, r3⟩ := h3
    exact ⟨g', st', h1, h2, r', r2, r1 _ _ _ r3⟩
  | panicked ch => exact ⟨g', st', h1, h2, h3⟩
  | outgrown => exact h3.elim
theorem Weak.refl (v : T) : Weak v v := fun _ _ _ h => h
theorem Weak.sl (b : Bool) (e : El) (l : List (ty e)) : Weak (.sl b e l) (.sl false e l) := fun _ g x h => by
  cases h with
  | sl _ _ _ A c h1 h2 h3 h4 => exact .sl false e l A c h1 h2 (by simp) h4
theorem Weak.nil (e : El) : Weak .nil (.sl false e []) := fun _ g x h => h.wk (.nil e)
theorem WeakL.cons {v u : T} {vs us : List T} (h : Weak v u) (k : WeakL vs us) : WeakL (v :: vs) (u :: us) :=
  ⟨by simp [k.1], fun i w hw => by
    cases i with
    | zero => simp at hw; subst hw; exact ⟨v, rfl, h⟩
    | succ i => simp at hw ⊢; exact k.2 i w hw⟩
theorem WeakL.nil : WeakL [] [] := ⟨rfl, fun i w hw => by simp at hw⟩
theorem WeakL.at {vs us : List T} (k : WeakL vs us) {g : G P} {xs : Array Value} (h : ∀ (i : Nat) (c : T) (x : Value), vs[i]? = some c → xs[i]? = some x → R g c x) : ∀ (i : Nat) (c : T) (x : Value), us[i]? = some c → xs[i]? = some x → R g c x := by
  intro i c x hc hx
  obtain ⟨v, v1, v2⟩ := k.2 i c hc
  exact v2 _ g x (h i v x v1 hx)
theorem Weak.tu {vs us : List T} (k : WeakL vs us) : Weak (.tu vs) (.tu us) := by
  intro _ g x h
  cases h with
  | tu _ xs h1 h2 => exact .tu us xs (by rw [← h1]; exact k.1) (k.at h2)
theorem Weak.ag {vs us : List T} (k : WeakL vs us) : Weak (.ag vs) (.ag us) := by
  intro _ g x h
  cases h with
  | ag _ xs h1 h2 h3 => exact .ag us xs (by rw [← h1]; exact k.1) (k.at h2) h3
theorem wkK.same {K : Kn} {r : T} {s : St} (h : K r s) : wkK K r s := ⟨r, .refl r, h⟩
theorem wkK.sl {K : Kn} {b : Bool} {e : El} {l : List (ty e)} {s : St} (h : K (.sl false e l) s) : wkK K (.sl b e l) s := ⟨_, .sl b e l, h⟩
theorem wkK.nil {K : Kn} (e : El) {s : St} (h : K (.sl false e []) s) : wkK K .nil s := ⟨_, .nil e, h⟩
/-! ### Loops, by a measure -/
theorem LoopW.of {γ : Type} {body : (γ → Prop) → γ → Prop} (I : γ → Prop) (m : γ → Nat) (hI : ∀ g, I g → ∀ W : γ → Prop, (∀ g', I g' → m g' < m g → W g') → body W g) {g : γ} (h : I g) : LoopW body g := by
  have key : ∀ n g, I g → m g < n → loopN body n g := by
    intro n
    induction n with
    | zero => intro g _ h; exact absurd h (Nat.not_lt_zero _)
    | succ n ih => intro g hg hm; exact hI g hg _ fun g' h1 h2 => ih g' h1 (by omega)
  exact ⟨m g + 1, key _ g h (Nat.lt_succ_self _)⟩
end Go.Proofs.YtoclmkbjgmgekaaDoor

/- The kinds of elements of this seat: their leaves, their bulk, what is well formed: printed by genkinds.py. -/
namespace Go.Proofs.YtoclmkbjgmgekaaDoor
set_option linter.unusedVariables false
set_option linter.unusedSimpArgs false
set_option linter.unusedSectionVars false
set_option maxRecDepth 100000
abbrev lvs : El → List Lf
  | .str => [.str]
  | .u8 => [.int .u8]
  | .dig => [.int .u8, .int .u8, .int .u8, .int .u8, .int .u8, .int .u8, .int .u8, .int .u8, .int .u8, .int .u8, .int .u8, .int .u8, .int .u8, .int .u8, .int .u8, .int .u8, .int .u8, .int .u8, .int .u8, .int .u8, .int .u8, .int .u8, .int .u8, .int .u8, .int .u8, .int .u8, .int .u8, .int .u8, .int .u8, .int .u8, .int .u8, .int .u8]
  | .rng => [.int .u8, .int .u8, .int .u8, .int .u8, .int .u8, .int .u8, .int .u8, .int .u8, .int .u8, .int .u8, .int .u8, .int .u8, .int .u8, .int .u8, .int .u8, .int .u8, .int .u8, .int .u8, .int .u8, .int .u8, .int .u8, .int .u8, .int .u8, .int .u8, .int .u8, .int .u8, .int .u8, .int .u8, .int .u8, .int .u8, .int .u8, .int .u8, .int .u8, .int .u8, .int .u8, .int .u8, .int .u8, .int .u8, .int .u8, .int .u8, .int .u8, .int .u8, .int .u8, .int .u8, .int .u8, .int .u8, .int .u8, .int .u8, .int .u8, .int .u8, .int .u8, .int .u8, .int .u8, .int .u8, .int .u8, .int .u8, .int .u8, .int .u8, .int .u8, .int .u8, .int .u8, .int .u8, .int .u8, .int .u8, .bool, .int .i64, .int .u8, .int .u8, .int .u8, .int .u8, .int .u8, .int .u8, .int .u8, .int .u8, .int .u8, .int .u8, .int .u8, .int .u8, .int .u8, .int .u8, .int .u8, .int .u8, .int .u8, .int .u8, .int .u8, .int .u8, .int .u8, .int .u8, .int .u8, .int .u8, .int .u8, .int .u8, .int .u8, .int .u8, .int .u8, .int .u8, .int .u8, .int .u8, .sl .dig]
  | .sgn => [.int .i64, .sl .dig, .sl .dig, .sl .dig]
  | .msg => [.int .i64, .str, .sl .dig, .sl .rng, .sl .str, .sl .str, .int .i64, .str, .int .i64, .sl .dig, .sl .dig, .sl .dig]
  | .ment => [.int .i64, .str]
  | .sexp => [.bool, .str, .sl .sexp]
def mkE : (e : El) → prodL (lvs e) → ty e
  | .str, g => g.1
  | .u8, g => g.1
  | .dig, g => ⟨g.1, g.2.1, g.2.2.1, g.2.2.2.1, g.2.2.2.2.1, g.2.2.2.2.2.1, g.2.2.2.2.2.2.1, g.2.2.2.2.2.2.2.1, g.2.2.2.2.2.2.2.2.1, g.2.2.2.2.2.2.2.2.2.1, g.2.2.2.2.2.2.2.2.2.2.1, g.2.2.2.2.2.2.2.2.2.2.2.1, g.2.2.2.2.2.2.2.2.2.2.2.2.1, g.2.2.2.2.2.2.2.2.2.2.2.2.2.1, g.2.2.2.2.2.2.2.2.2.2.2.2.2.2.1, g.2.2.2.2.2.2.2.2.2.2.2.2.2.2.2.1, g.2.2.2.2.2.2.2.2.2.2.2.2.2.2.2.2.1, g.2.2.2.2.2.2.2.2.2.2.2.2.2.2.2.2.2.1, g.2.2.2.2.2.2.2.2.2.2.2.2.2.2.2.2.2.2.1, g.2.2.2.2.2.2.2.2.2.2.2.2.2.2.2.2.2.2.2.1, g.2.2.2.2.2.2.2.2.2.2.2.2.2.2.2.2.2.2.2.2.1, g.2.2.2.2.2.2.2.2.2.2.2.2.2.2.2.2.2.2.2.2.2.1, g.2.2.2.2.2.2.2.2.2.2.2.2.2.2.2.2.2.2.2.2.2.2.1, g.2.2.2.2.2.2.2.2.2.2.2.2.2.2.2.2.2.2.2.2.2.2.2.1, g.2.2.2.2.2.2.2.2.2.2.2.2.2.2.2.2.2.2.2.2.2.2.2.2.1, g.2.2.2.2.2.2.2.2.2.2.2.2.2.2.2.2.2.2.2.2.2.2.2.2.2.1, g.2.2.2.2.2.2.2.2.2.2.2.2.2.2.2.2.2.2.2.2.2.2.2.2.2.2.1, g.2.2.2.2.2.2.2.2.2.2.2.2.2.2.2.2.2.2.2.2.2.2.2.2.2.2.2.1, g.2.2.2.2.2.2.2.2.2.2.2.2.2.2.2.2.2.2.2.2.2.2.2.2.2.2.2.2.1, g.2.2.2.2.2.2.2.2.2.2.2.2.2.2.2.2.2.2.2.2.2.2.2.2.2.2.2.2.2.1, g.2.2.2.2.2.2.2.2.2.2.2.2.2.2.2.2.2.2.2.2.2.2.2.2.2.2.2.2.2.2.1, g.2.2.2.2.2.2.2.2.2.2.2.2.2.2.2.2.2.2.2.2.2.2.2.2.2.2.2.2.2.2.2.1⟩
  | .rng, g => ⟨⟨g.1, g.2.1, g.2.2.1, g.2.2.2.1, g.2.2.2.2.1, g.2.2.2.2.2.1, g.2.2.2.2.2.2.1, g.2.2.2.2.2.2.2.1, g.2.2.2.2.2.2.2.2.1, g.2.2.2.2.2.2.2.2.2.1, g.2.2.2.2.2.2.2.2.2.2.1, g.2.2.2.2.2.2.2.2.2.2.2.1, g.2.2.2.2.2.2.2.2.2.2.2.2.1, g.2.2.2.2.2.2.2.2.2.2.2.2.2.1, g.2.2.2.2.2.2.2.2.2.2.2.2.2.2.1, g.2.2.2.2.2.2.2.2.2.2.2.2.2.2.2.1, g.2.2.2.2.2.2.2.2.2.2.2.2.2.2.2.2.1, g.2.2.2.2.2.2.2.2.2.2.2.2.2.2.2.2.2.1, g.2.2.2.2.2.2.2.2.2.2.2.2.2.2.2.2.2.2.1, g.2.2.2.2.2.2.2.2.2.2.2.2.2.2.2.2.2.2.2.1, g.2.2.2.2.2.2.2.2.2.2.2.2.2.2.2.2.2.2.2.2.1, g.2.2.2.2.2.2.2.2.2.2.2.2.2.2.2.2.2.2.2.2.2.1, g.2.2.2.2.2.2.2.2.2.2.2.2.2.2.2.2.2.2.2.2.2.2.1, g.2.2.2.2.2.2.2.2.2.2.2.2.2.2.2.2.2.2.2.2.2.2.2.1, g.2.2.2.2.2.2.2.2.2.2.2.2.2.2.2.2.2.2.2.2.2.2.2.2.1, g.2.2.2.2.2.2.2.2.2.2.2.2.2.2.2.2.2.2.2.2.2.2.2.2.2.1, g.2.2.2.2.2.2.2.2.2.2.2.2.2.2.2.2.2.2.2.2.2.2.2.2.2.2.1, g.2.2.2.2.2.2.2.2.2.2.2.2.2.2.2.2.2.2.2.2.2.2.2.2.2.2.2.1, g.2.2.2.2.2.2.2.2.2.2.2.2.2.2.2.2.2.2.2.2.2.2.2.2.2.2.2.2.1, g.2.2.2.2.2.2.2.2.2.2.2.2.2.2.2.2.2.2.2.2.2.2.2.2.2.2.2.2.2.1, g.2.2.2.2.2.2.2.2.2.2.2.2.2.2.2.2.2.2.2.2.2.2.2.2.2.2.2.2.2.2.1, g.2.2.2.2.2.2.2.2.2.2.2.2.2.2.2.2.2.2.2.2.2.2.2.2.2.2.2.2.2.2.2.1⟩, ⟨g.2.2.2.2.2.2.2.2.2.2.2.2.2.2.2.2.2.2.2.2.2.2.2.2.2.2.2.2.2.2.2.2.1, g.2.2.2.2.2.2.2.2.2.2.2.2.2.2.2.2.2.2.2.2.2.2.2.2.2.2.2.2.2.2.2.2.2.1, g.2.2.2.2.2.2.2.2.2.2.2.2.2.2.2.2.2.2.2.2.2.2.2.2.2.2.2.2.2.2.2.2.2.2.1, g.2.2.2.2.2.2.2.2.2.2.2.2.2.2.2.2.2.2.2.2.2.2.2.2.2.2.2.2.2.2.2.2.2.2.2.1, g.2.2.2.2.2.2.2.2.2.2.2.2.2.2.2.2.2.2.2.2.2.2.2.2.2.2.2.2.2.2.2.2.2.2.2.2.1, g.2.2.2.2.2.2.2.2.2.2.2.2.2.2.2.2.2.2.2.2.2.2.2.2.2.2.2.2.2.2.2.2.2.2.2.2.2.1, g.2.2.2.2.2.2.2.2.2.2.2.2.2.2.2.2.2.2.2.2.2.2.2.2.2.2.2.2.2.2.2.2.2.2.2.2.2.2.1, g.2.2.2.2.2.2.2.2.2.2.2.2.2.2.2.2.2.2.2.2.2.2.2.2.2.2.2.2.2.2.2.2.2.2.2.2.2.2.2.1, g.2.2.2.2.2.2.2.2.2.2.2.2.2.2.2.2.2.2.2.2.2.2.2.2.2.2.2.2.2.2.2.2.2.2.2.2.2.2.2.2.1, g.2.2.2.2.2.2.2.2.2.2.2.2.2.2.2.2.2.2.2.2.2.2.2.2.2.2.2.2.2.2.2.2.2.2.2.2.2.2.2.2.2.1, g.2.2.2.2.2.2.2.2.2.2.2.2.2.2.2.2.2.2.2.2.2.2.2.2.2.2.2.2.2.2.2.2.2.2.2.2.2.2.2.2.2.2.1, g.2.2.2.2.2.2.2.2.2.2.2.2.2.2.2.2.2.2.2.2.2.2.2.2.2.2.2.2.2.2.2.2.2.2.2.2.2.2.2.2.2.2.2.1, g.2.2.2.2.2.2.2.2.2.2.2.2.2.2.2.2.2.2.2.2.2.2.2.2.2.2.2.2.2.2.2.2.2.2.2.2.2.2.2.2.2.2.2.2.1, g.2.2.2.2.2.2.2.2.2.2.2.2.2.2.2.2.2.2.2.2.2.2.2.2.2.2.2.2.2.2.2.2.2.2.2.2.2.2.2.2.2.2.2.2.2.1, g.2.2.2.2.2.2.2.2.2.2.2.2.2.2.2.2.2.2.2.2.2.2.2.2.2.2.2.2.2.2.2.2.2.2.2.2.2.2.2.2.2.2.2.2.2.2.1, g.2.2.2.2.2.2.2.2.2.2.2.2.2.2.2.2.2.2.2.2.2.2.2.2.2.2.2.2.2.2.2.2.2.2.2.2.2.2.2.2.2.2.2.2.2.2.2.1, g.2.2.2.2.2.2.2.2.2.2.2.2.2.2.2.2.2.2.2.2.2.2.2.2.2.2.2.2.2.2.2.2.2.2.2.2.2.2.2.2.2.2.2.2.2.2.2.2.1, g.2.2.2.2.2.2.2.2.2.2.2.2.2.2.2.2.2.2.2.2.2.2.2.2.2.2.2.2.2.2.2.2.2.2.2.2.2.2.2.2.2.2.2.2.2.2.2.2.2.1, g.2.2.2.2.2.2.2.2.2.2.2.2.2.2.2.2.2.2.2.2.2.2.2.2.2.2.2.2.2.2.2.2.2.2.2.2.2.2.2.2.2.2.2.2.2.2.2.2.2.2.1, g.2.2.2.2.2.2.2.2.2.2.2.2.2.2.2.2.2.2.2.2.2.2.2.2.2.2.2.2.2.2.2.2.2.2.2.2.2.2.2.2.2.2.2.2.2.2.2.2.2.2.2.1, g.2.2.2.2.2.2.2.2.2.2.2.2.2.2.2.2.2.2.2.2.2.2.2.2.2.2.2.2.2.2.2.2.2.2.2.2.2.2.2.2.2.2.2.2.2.2.2.2.2.2.2.2.1, g.2.2.2.2.2.2.2.2.2.2.2.2.2.2.2.2.2.2.2.2.2.2.2.2.2.2.2.2.2.2.2.2.2.2.2.2.2.2.2.2.2.2.2.2.2.2.2.2.2.2.2.2.2.1, g.2.2.2.2.2.2.2.2.2.2.2.2.2.2.2.2.2.2.2.2.2.2.2.2.2.2.2.2.2.2.2.2.2.2.2.2.2.2.2.2.2.2.2.2.2.2.2.2.2.2.2.2.2.2.1, g.2.2.2.2.2.2.2.2.2.2.2.2.2.2.2.2.2.2.2.2.2.2.2.2.2.2.2.2.2.2.2.2.2.2.2.2.2.2.2.2.2.2.2.2.2.2.2.2.2.2.2.2.2.2.2.1, g.2.2.2.2.2.2.2.2.2.2.2.2.2.2.2.2.2.2.2.2.2.2.2.2.2.2.2.2.2.2.2.2.2.2.2.2.2.2.2.2.2.2.2.2.2.2.2.2.2.2.2.2.2.2.2.2.1, g.2.2.2.2.2.2.2.2.2.2.2.2.2.2.2.2.2.2.2.2.2.2.2.2.2.2.2.2.2.2.2.2.2.2.2.2.2.2.2.2.2.2.2.2.2.2.2.2.2.2.2.2.2.2.2.2.2.1, g.2.2.2.2.2.2.2.2.2.2.2.2.2.2.2.2.2.2.2.2.2.2.2.2.2.2.2.2.2.2.2.2.2.2.2.2.2.2.2.2.2.2.2.2.2.2.2.2.2.2.2.2.2.2.2.2.2.2.1, g.2.2.2.2.2.2.2.2.2.2.2.2.2.2.2.2.2.2.2.2.2.2.2.2.2.2.2.2.2.2.2.2.2.2.2.2.2.2.2.2.2.2.2.2.2.2.2.2.2.2.2.2.2.2.2.2.2.2.2.1, g.2.2.2.2.2.2.2.2.2.2.2.2.2.2.2.2.2.2.2.2.2.2.2.2.2.2.2.2.2.2.2.2.2.2.2.2.2.2.2.2.2.2.2.2.2.2.2.2.2.2.2.2.2.2.2.2.2.2.2.2.1, g.2.2.2.2.2.2.2.2.2.2.2.2.2.2.2.2.2.2.2.2.2.2.2.2.2.2.2.2.2.2.2.2.2.2.2.2.2.2.2.2.2.2.2.2.2.2.2.2.2.2.2.2.2.2.2.2.2.2.2.2.2.1, g.2.2.2.2.2.2.2.2.2.2.2.2.2.2.2.2.2.2.2.2.2.2.2.2.2.2.2.2.2.2.2.2.2.2.2.2.2.2.2.2.2.2.2.2.2.2.2.2.2.2.2.2.2.2.2.2.2.2.2.2.2.2.1, g.2.2.2.2.2.2.2.2.2.2.2.2.2.2.2.2.2.2.2.2.2.2.2.2.2.2.2.2.2.2.2.2.2.2.2.2.2.2.2.2.2.2.2.2.2.2.2.2.2.2.2.2.2.2.2.2.2.2.2.2.2.2.2.1⟩, g.2.2.2.2.2.2.2.2.2.2.2.2.2.2.2.2.2.2.2.2.2.2.2.2.2.2.2.2.2.2.2.2.2.2.2.2.2.2.2.2.2.2.2.2.2.2.2.2.2.2.2.2.2.2.2.2.2.2.2.2.2.2.2.2.1, g.2.2.2.2.2.2.2.2.2.2.2.2.2.2.2.2.2.2.2.2.2.2.2.2.2.2.2.2.2.2.2.2.2.2.2.2.2.2.2.2.2.2.2.2.2.2.2.2.2.2.2.2.2.2.2.2.2.2.2.2.2.2.2.2.2.1, ⟨g.2.2.2.2.2.2.2.2.2.2.2.2.2.2.2.2.2.2.2.2.2.2.2.2.2.2.2.2.2.2.2.2.2.2.2.2.2.2.2.2.2.2.2.2.2.2.2.2.2.2.2.2.2.2.2.2.2.2.2.2.2.2.2.2.2.2.1, g.2.2.2.2.2.2.2.2.2.2.2.2.2.2.2.2.2.2.2.2.2.2.2.2.2.2.2.2.2.2.2.2.2.2.2.2.2.2.2.2.2.2.2.2.2.2.2.2.2.2.2.2.2.2.2.2.2.2.2.2.2.2.2.2.2.2.2.1, g.2.2.2.2.2.2.2.2.2.2.2.2.2.2.2.2.2.2.2.2.2.2.2.2.2.2.2.2.2.2.2.2.2.2.2.2.2.2.2.2.2.2.2.2.2.2.2.2.2.2.2.2.2.2.2.2.2.2.2.2.2.2.2.2.2.2.2.2.1, g.2.2.2.2.2.2.2.2.2.2.2.2.2.2.2.2.2.2.2.2.2.2.2.2.2.2.2.2.2.2.2.2.2.2.2.2.2.2.2.2.2.2.2.2.2.2.2.2.2.2.2.2.2.2.2.2.2.2.2.2.2.2.2.2.2.2.2.2.2.1, g.2.2.2.2.2.2.2.2.2.2.2.2.2.2.2.2.2.2.2.2.2.2.2.2.2.2.2.2.2.2.2.2.2.2.2.2.2.2.2.2.2.2.2.2.2.2.2.2.2.2.2.2.2.2.2.2.2.2.2.2.2.2.2.2.2.2.2.2.2.2.1, g.2.2.2.2.2.2.2.2.2.2.2.2.2.2.2.2.2.2.2.2.2.2.2.2.2.2.2.2.2.2.2.2.2.2.2.2.2.2.2.2.2.2.2.2.2.2.2.2.2.2.2.2.2.2.2.2.2.2.2.2.2.2.2.2.2.2.2.2.2.2.2.1, g.2.2.2.2.2.2.2.2.2.2.2.2.2.2.2.2.2.2.2.2.2.2.2.2.2.2.2.2.2.2.2.2.2.2.2.2.2.2.2.2.2.2.2.2.2.2.2.2.2.2.2.2.2.2.2.2.2.2.2.2.2.2.2.2.2.2.2.2.2.2.2.2.1, g.2.2.2.2.2.2.2.2.2.2.2.2.2.2.2.2.2.2.2.2.2.2.2.2.2.2.2.2.2.2.2.2.2.2.2.2.2.2.2.2.2.2.2.2.2.2.2.2.2.2.2.2.2.2.2.2.2.2.2.2.2.2.2.2.2.2.2.2.2.2.2.2.2.1, g.2.2.2.2.2.2.2.2.2.2.2.2.2.2.2.2.2.2.2.2.2.2.2.2.2.2.2.2.2.2.2.2.2.2.2.2.2.2.2.2.2.2.2.2.2.2.2.2.2.2.2.2.2.2.2.2.2.2.2.2.2.2.2.2.2.2.2.2.2.2.2.2.2.2.1, g.2.2.2.2.2.2.2.2.2.2.2.2.2.2.2.2.2.2.2.2.2.2.2.2.2.2.2.2.2.2.2.2.2.2.2.2.2.2.2.2.2.2.2.2.2.2.2.2.2.2.2.2.2.2.2.2.2.2.2.2.2.2.2.2.2.2.2.2.2.2.2.2.2.2.2.1, g.2.2.2.2.2.2.2.2.2.2.2.2.2.2.2.2.2.2.2.2.2.2.2.2.2.2.2.2.2.2.2.2.2.2.2.2.2.2.2.2.2.2.2.2.2.2.2.2.2.2.2.2.2.2.2.2.2.2.2.2.2.2.2.2.2.2.2.2.2.2.2.2.2.2.2.2.1, g.2.2.2.2.2.2.2.2.2.2.2.2.2.2.2.2.2.2.2.2.2.2.2.2.2.2.2.2.2.2.2.2.2.2.2.2.2.2.2.2.2.2.2.2.2.2.2.2.2.2.2.2.2.2.2.2.2.2.2.2.2.2.2.2.2.2.2.2.2.2.2.2.2.2.2.2.2.1, g.2.2.2.2.2.2.2.2.2.2.2.2.2.2.2.2.2.2.2.2.2.2.2.2.2.2.2.2.2.2.2.2.2.2.2.2.2.2.2.2.2.2.2.2.2.2.2.2.2.2.2.2.2.2.2.2.2.2.2.2.2.2.2.2.2.2.2.2.2.2.2.2.2.2.2.2.2.2.1, g.2.2.2.2.2.2.2.2.2.2.2.2.2.2.2.2.2.2.2.2.2.2.2.2.2.2.2.2.2.2.2.2.2.2.2.2.2.2.2.2.2.2.2.2.2.2.2.2.2.2.2.2.2.2.2.2.2.2.2.2.2.2.2.2.2.2.2.2.2.2.2.2.2.2.2.2.2.2.2.1, g.2.2.2.2.2.2.2.2.2.2.2.2.2.2.2.2.2.2.2.2.2.2.2.2.2.2.2.2.2.2.2.2.2.2.2.2.2.2.2.2.2.2.2.2.2.2.2.2.2.2.2.2.2.2.2.2.2.2.2.2.2.2.2.2.2.2.2.2.2.2.2.2.2.2.2.2.2.2.2.2.1, g.2.2.2.2.2.2.2.2.2.2.2.2.2.2.2.2.2.2.2.2.2.2.2.2.2.2.2.2.2.2.2.2.2.2.2.2.2.2.2.2.2.2.2.2.2.2.2.2.2.2.2.2.2.2.2.2.2.2.2.2.2.2.2.2.2.2.2.2.2.2.2.2.2.2.2.2.2.2.2.2.2.1, g.2.2.2.2.2.2.2.2.2.2.2.2.2.2.2.2.2.2.2.2.2.2.2.2.2.2.2.2.2.2.2.2.2.2.2.2.2.2.2.2.2.2.2.2.2.2.2.2.2.2.2.2.2.2.2.2.2.2.2.2.2.2.2.2.2.2.2.2.2.2.2.2.2.2.2.2.2.2.2.2.2.2.1, g.2.2.2.2.2.2.2.2.2.2.2.2.2.2.2.2.2.2.2.2.2.2.2.2.2.2.2.2.2.2.2.2.2.2.2.2.2.2.2.2.2.2.2.2.2.2.2.2.2.2.2.2.2.2.2.2.2.2.2.2.2.2.2.2.2.2.2.2.2.2.2.2.2.2.2.2.2.2.2.2.2.2.2.1, g.2.2.2.2.2.2.2.2.2.2.2.2.2.2.2.2.2.2.2.2.2.2.2.2.2.2.2.2.2.2.2.2.2.2.2.2.2.2.2.2.2.2.2.2.2.2.2.2.2.2.2.2.2.2.2.2.2.2.2.2.2.2.2.2.2.2.2.2.2.2.2.2.2.2.2.2.2.2.2.2.2.2.2.2.1, g.2.2.2.2.2.2.2.2.2.2.2.2.2.2.2.2.2.2.2.2.2.2.2.2.2.2.2.2.2.2.2.2.2.2.2.2.2.2.2.2.2.2.2.2.2.2.2.2.2.2.2.2.2.2.2.2.2.2.2.2.2.2.2.2.2.2.2.2.2.2.2.2.2.2.2.2.2.2.2.2.2.2.2.2.2.1, g.2.2.2.2.2.2.2.2.2.2.2.2.2.2.2.2.2.2.2.2.2.2.2.2.2.2.2.2.2.2.2.2.2.2.2.2.2.2.2.2.2.2.2.2.2.2.2.2.2.2.2.2.2.2.2.2.2.2.2.2.2.2.2.2.2.2.2.2.2.2.2.2.2.2.2.2.2.2.2.2.2.2.2.2.2.2.1, g.2.2.2.2.2.2.2.2.2.2.2.2.2.2.2.2.2.2.2.2.2.2.2.2.2.2.2.2.2.2.2.2.2.2.2.2.2.2.2.2.2.2.2.2.2.2.2.2.2.2.2.2.2.2.2.2.2.2.2.2.2.2.2.2.2.2.2.2.2.2.2.2.2.2.2.2.2.2.2.2.2.2.2.2.2.2.2.1, g.2.2.2.2.2.2.2.2.2.2.2.2.2.2.2.2.2.2.2.2.2.2.2.2.2.2.2.2.2.2.2.2.2.2.2.2.2.2.2.2.2.2.2.2.2.2.2.2.2.2.2.2.2.2.2.2.2.2.2.2.2.2.2.2.2.2.2.2.2.2.2.2.2.2.2.2.2.2.2.2.2.2.2.2.2.2.2.2.1, g.2.2.2.2.2.2.2.2.2.2.2.2.2.2.2.2.2.2.2.2.2.2.2.2.2.2.2.2.2.2.2.2.2.2.2.2.2.2.2.2.2.2.2.2.2.2.2.2.2.2.2.2.2.2.2.2.2.2.2.2.2.2.2.2.2.2.2.2.2.2.2.2.2.2.2.2.2.2.2.2.2.2.2.2.2.2.2.2.2.1, g.2.2.2.2.2.2.2.2.2.2.2.2.2.2.2.2.2.2.2.2.2.2.2.2.2.2.2.2.2.2.2.2.2.2.2.2.2.2.2.2.2.2.2.2.2.2.2.2.2.2.2.2.2.2.2.2.2.2.2.2.2.2.2.2.2.2.2.2.2.2.2.2.2.2.2.2.2.2.2.2.2.2.2.2.2.2.2.2.2.2.1, g.2.2.2.2.2.2.2.2.2.2.2.2.2.2.2.2.2.2.2.2.2.2.2.2.2.2.2.2.2.2.2.2.2.2.2.2.2.2.2.2.2.2.2.2.2.2.2.2.2.2.2.2.2.2.2.2.2.2.2.2.2.2.2.2.2.2.2.2.2.2.2.2.2.2.2.2.2.2.2.2.2.2.2.2.2.2.2.2.2.2.2.1, g.2.2.2.2.2.2.2.2.2.2.2.2.2.2.2.2.2.2.2.2.2.2.2.2.2.2.2.2.2.2.2.2.2.2.2.2.2.2.2.2.2.2.2.2.2.2.2.2.2.2.2.2.2.2.2.2.2.2.2.2.2.2.2.2.2.2.2.2.2.2.2.2.2.2.2.2.2.2.2.2.2.2.2.2.2.2.2.2.2.2.2.2.1, g.2.2.2.2.2.2.2.2.2.2.2.2.2.2.2.2.2.2.2.2.2.2.2.2.2.2.2.2.2.2.2.2.2.2.2.2.2.2.2.2.2.2.2.2.2.2.2.2.2.2.2.2.2.2.2.2.2.2.2.2.2.2.2.2.2.2.2.2.2.2.2.2.2.2.2.2.2.2.2.2.2.2.2.2.2.2.2.2.2.2.2.2.2.1, g.2.2.2.2.2.2.2.2.2.2.2.2.2.2.2.2.2.2.2.2.2.2.2.2.2.2.2.2.2.2.2.2.2.2.2.2.2.2.2.2.2.2.2.2.2.2.2.2.2.2.2.2.2.2.2.2.2.2.2.2.2.2.2.2.2.2.2.2.2.2.2.2.2.2.2.2.2.2.2.2.2.2.2.2.2.2.2.2.2.2.2.2.2.2.1, g.2.2.2.2.2.2.2.2.2.2.2.2.2.2.2.2.2.2.2.2.2.2.2.2.2.2.2.2.2.2.2.2.2.2.2.2.2.2.2.2.2.2.2.2.2.2.2.2.2.2.2.2.2.2.2.2.2.2.2.2.2.2.2.2.2.2.2.2.2.2.2.2.2.2.2.2.2.2.2.2.2.2.2.2.2.2.2.2.2.2.2.2.2.2.2.1, g.2.2.2.2.2.2.2.2.2.2.2.2.2.2.2.2.2.2.2.2.2.2.2.2.2.2.2.2.2.2.2.2.2.2.2.2.2.2.2.2.2.2.2.2.2.2.2.2.2.2.2.2.2.2.2.2.2.2.2.2.2.2.2.2.2.2.2.2.2.2.2.2.2.2.2.2.2.2.2.2.2.2.2.2.2.2.2.2.2.2.2.2.2.2.2.2.1, g.2.2.2.2.2.2.2.2.2.2.2.2.2.2.2.2.2.2.2.2.2.2.2.2.2.2.2.2.2.2.2.2.2.2.2.2.2.2.2.2.2.2.2.2.2.2.2.2.2.2.2.2.2.2.2.2.2.2.2.2.2.2.2.2.2.2.2.2.2.2.2.2.2.2.2.2.2.2.2.2.2.2.2.2.2.2.2.2.2.2.2.2.2.2.2.2.2.1⟩, g.2.2.2.2.2.2.2.2.2.2.2.2.2.2.2.2.2.2.2.2.2.2.2.2.2.2.2.2.2.2.2.2.2.2.2.2.2.2.2.2.2.2.2.2.2.2.2.2.2.2.2.2.2.2.2.2.2.2.2.2.2.2.2.2.2.2.2.2.2.2.2.2.2.2.2.2.2.2.2.2.2.2.2.2.2.2.2.2.2.2.2.2.2.2.2.2.2.2.1⟩
  | .sgn, g => ⟨g.1, g.2.1, g.2.2.1, g.2.2.2.1⟩
  | .msg, g => ⟨g.1, g.2.1, g.2.2.1, g.2.2.2.1, g.2.2.2.2.1, g.2.2.2.2.2.1, g.2.2.2.2.2.2.1, g.2.2.2.2.2.2.2.1, ⟨g.2.2.2.2.2.2.2.2.1, g.2.2.2.2.2.2.2.2.2.1, g.2.2.2.2.2.2.2.2.2.2.1, g.2.2.2.2.2.2.2.2.2.2.2.1⟩⟩
  | .ment, g => ⟨g.1, g.2.1⟩
  | .sexp, g => ⟨g.1, g.2.1, g.2.2.1⟩
theorem enc_mk : ∀ (e : El) (g : prodL (lvs e)), enc e (mkE e g) = envT (lvs e) g
  | .str, _ => rfl
  | .u8, _ => rfl
  | .dig, _ => rfl
  | .rng, _ => rfl
  | .sgn, _ => rfl
  | .msg, _ => rfl
  | .ment, _ => rfl
  | .sexp, _ => rfl
mutual
def bkS : Sx → Nat
  | ⟨_, a, l⟩ => a.size + 3 + bkSs l
def bkSs : List Sx → Nat
  | [] => 0
  | x :: l => bkS x + bkSs l
end
def bk_str (x : ByteArray) : Nat := (x.size + 1)
def bk_u8 (x : Int) : Nat := 1
def bk_dig (x : Dig) : Nat := 32
def bk_rng (x : Rng) : Nat := ((x.ids.map bk_dig).sum + 1) + 98
def bk_sgn (x : Sgn) : Nat := ((x.revealed.map bk_dig).sum + 1) + ((x.others.map bk_dig).sum + 1) + ((x.path.map bk_dig).sum + 1) + 1
def bk_msg (x : Msg) : Nat := (x.name.size + 1) + ((x.ids.map bk_dig).sum + 1) + ((x.ranges.map bk_rng).sum + 1) + ((x.patches.map bk_str).sum + 1) + ((x.paths.map bk_str).sum + 1) + (x.text.size + 1) + ((x.sig.revealed.map bk_dig).sum + 1) + ((x.sig.others.map bk_dig).sum + 1) + ((x.sig.path.map bk_dig).sum + 1) + 3
def bk_ment (x : Ment) : Nat := 1 + (x.val.size + 1)
def bk_sexp (x : Sx) : Nat := bkS x
def bk : (e : El) → ty e → Nat
  | .str, x => bk_str x
  | .u8, x => bk_u8 x
  | .dig, x => bk_dig x
  | .rng, x => bk_rng x
  | .sgn, x => bk_sgn x
  | .msg, x => bk_msg x
  | .ment, x => bk_ment x
  | .sexp, x => bk_sexp x
def bkL : (L : List Lf) → prodL L → Nat
  | [], _ => 0
  | .int _ :: r, g => 1 + bkL r g.2
  | .bool :: r, g => 1 + bkL r g.2
  | .str :: r, g => g.1.size + 1 + bkL r g.2
  | .sl e :: r, g => (g.1.map (bk e)).sum + 1 + bkL r g.2
  | .cst :: r, g => bkL r g.2
theorem bkSs_sum : ∀ (l : List Sx), bkSs l = (l.map bkS).sum
  | [] => rfl
  | x :: l => by simp only [bkSs, List.map_cons, List.sum_cons, bkSs_sum l]
theorem bk_mk : ∀ (e : El) (g : prodL (lvs e)), bk e (mkE e g) = bkL (lvs e) g
  | .str, g => by
    simp only [bk, bk_str, mkE, bkL] <;> omega
  | .u8, g => by
    simp only [bk, bk_u8, mkE, bkL] <;> omega
  | .dig, g => by
    simp only [bk, bk_dig, mkE, bkL] <;> omega
  | .rng, g => by
    have e98 : (g.2.2.2.2.2.2.2.2.2.2.2.2.2.2.2.2.2.2.2.2.2.2.2.2.2.2.2.2.2.2.2.2.2.2.2.2.2.2.2.2.2.2.2.2.2.2.2.2.2.2.2.2.2.2.2.2.2.2.2.2.2.2.2.2.2.2.2.2.2.2.2.2.2.2.2.2.2.2.2.2.2.2.2.2.2.2.2.2.2.2.2.2.2.2.2.2.2.2.1.map (bk .dig)).sum = (g.2.2.2.2.2.2.2.2.2.2.2.2.2.2.2.2.2.2.2.2.2.2.2.2.2.2.2.2.2.2.2.2.2.2.2.2.2.2.2.2.2.2.2.2.2.2.2.2.2.2.2.2.2.2.2.2.2.2.2.2.2.2.2.2.2.2.2.2.2.2.2.2.2.2.2.2.2.2.2.2.2.2.2.2.2.2.2.2.2.2.2.2.2.2.2.2.2.2.1.map bk_dig).sum := rfl
    simp only [bk, bk_rng, mkE, bkL, e98] <;> omega
  | .sgn, g => by
    have e1 : (g.2.1.map (bk .dig)).sum = (g.2.1.map bk_dig).sum := rfl
    have e2 : (g.2.2.1.map (bk .dig)).sum = (g.2.2.1.map bk_dig).sum := rfl
    have e3 : (g.2.2.2.1.map (bk .dig)).sum = (g.2.2.2.1.map bk_dig).sum := rfl
    simp only [bk, bk_sgn, mkE, bkL, e1, e2, e3] <;> omega
  | .msg, g => by
    have e2 : (g.2.2.1.map (bk .dig)).sum = (g.2.2.1.map bk_dig).sum := rfl
    have e3 : (g.2.2.2.1.map (bk .rng)).sum = (g.2.2.2.1.map bk_rng).sum := rfl
    have e4 : (g.2.2.2.2.1.map (bk .str)).sum = (g.2.2.2.2.1.map bk_str).sum := rfl
    have e5 : (g.2.2.2.2.2.1.map (bk .str)).sum = (g.2.2.2.2.2.1.map bk_str).sum := rfl
    have e9 : (g.2.2.2.2.2.2.2.2.2.1.map (bk .dig)).sum = (g.2.2.2.2.2.2.2.2.2.1.map bk_dig).sum := rfl
    have e10 : (g.2.2.2.2.2.2.2.2.2.2.1.map (bk .dig)).sum = (g.2.2.2.2.2.2.2.2.2.2.1.map bk_dig).sum := rfl
    have e11 : (g.2.2.2.2.2.2.2.2.2.2.2.1.map (bk .dig)).sum = (g.2.2.2.2.2.2.2.2.2.2.2.1.map bk_dig).sum := rfl
    simp only [bk, bk_msg, mkE, bkL, e2, e3, e4, e5, e9, e10, e11] <;> omega
  | .ment, g => by
    simp only [bk, bk_ment, mkE, bkL] <;> omega
  | .sexp, g => by
    have e : (g.2.2.1.map (bk .sexp)).sum = (g.2.2.1.map bkS).sum := rfl
    simp only [bk, bk_sexp, mkE, bkL, bkS, bkSs_sum, e]; omega
def wf_str (x : ByteArray) : Prop := True
def wf_u8 (x : Int) : Prop := (IntKind.u8.min ≤ x ∧ x ≤ IntKind.u8.max)
def wf_dig (x : Dig) : Prop := (IntKind.u8.min ≤ x.b0 ∧ x.b0 ≤ IntKind.u8.max) ∧ (IntKind.u8.min ≤ x.b1 ∧ x.b1 ≤ IntKind.u8.max) ∧ (IntKind.u8.min ≤ x.b2 ∧ x.b2 ≤ IntKind.u8.max) ∧ (IntKind.u8.min ≤ x.b3 ∧ x.b3 ≤ IntKind.u8.max) ∧ (IntKind.u8.min ≤ x.b4 ∧ x.b4 ≤ IntKind.u8.max) ∧ (IntKind.u8.min ≤ x.b5 ∧ x.b5 ≤ IntKind.u8.max) ∧ (IntKind.u8.min ≤ x.b6 ∧ x.b6 ≤ IntKind.u8.max) ∧ (IntKind.u8.min ≤ x.b7 ∧ x.b7 ≤ IntKind.u8.max) ∧ (IntKind.u8.min ≤ x.b8 ∧ x.b8 ≤ IntKind.u8.max) ∧ (IntKind.u8.min ≤ x.b9 ∧ x.b9 ≤ IntKind.u8.max) ∧ (IntKind.u8.min ≤ x.b10 ∧ x.b10 ≤ IntKind.u8.max) ∧ (IntKind.u8.min ≤ x.b11 ∧ x.b11 ≤ IntKind.u8.max) ∧ (IntKind.u8.min ≤ x.b12 ∧ x.b12 ≤ IntKind.u8.max) ∧ (IntKind.u8.min ≤ x.b13 ∧ x.b13 ≤ IntKind.u8.max) ∧ (IntKind.u8.min ≤ x.b14 ∧ x.b14 ≤ IntKind.u8.max) ∧ (IntKind.u8.min ≤ x.b15 ∧ x.b15 ≤ IntKind.u8.max) ∧ (IntKind.u8.min ≤ x.b16 ∧ x.b16 ≤ IntKind.u8.max) ∧ (IntKind.u8.min ≤ x.b17 ∧ x.b17 ≤ IntKind.u8.max) ∧ (IntKind.u8.min ≤ x.b18 ∧ x.b18 ≤ IntKind.u8.max) ∧ (IntKind.u8.min ≤ x.b19 ∧ x.b19 ≤ IntKind.u8.max) ∧ (IntKind.u8.min ≤ x.b20 ∧ x.b20 ≤ IntKind.u8.max) ∧ (IntKind.u8.min ≤ x.b21 ∧ x.b21 ≤ IntKind.u8.max) ∧ (IntKind.u8.min ≤ x.b22 ∧ x.b22 ≤ IntKind.u8.max) ∧ (IntKind.u8.min ≤ x.b23 ∧ x.b23 ≤ IntKind.u8.max) ∧ (IntKind.u8.min ≤ x.b24 ∧ x.b24 ≤ IntKind.u8.max) ∧ (IntKind.u8.min ≤ x.b25 ∧ x.b25 ≤ IntKind.u8.max) ∧ (IntKind.u8.min ≤ x.b26 ∧ x.b26 ≤ IntKind.u8.max) ∧ (IntKind.u8.min ≤ x.b27 ∧ x.b27 ≤ IntKind.u8.max) ∧ (IntKind.u8.min ≤ x.b28 ∧ x.b28 ≤ IntKind.u8.max) ∧ (IntKind.u8.min ≤ x.b29 ∧ x.b29 ≤ IntKind.u8.max) ∧ (IntKind.u8.min ≤ x.b30 ∧ x.b30 ≤ IntKind.u8.max) ∧ (IntKind.u8.min ≤ x.b31 ∧ x.b31 ≤ IntKind.u8.max)
def wf_rng (x : Rng) : Prop := (IntKind.u8.min ≤ x.low.b0 ∧ x.low.b0 ≤ IntKind.u8.max) ∧ (IntKind.u8.min ≤ x.low.b1 ∧ x.low.b1 ≤ IntKind.u8.max) ∧ (IntKind.u8.min ≤ x.low.b2 ∧ x.low.b2 ≤ IntKind.u8.max) ∧ (IntKind.u8.min ≤ x.low.b3 ∧ x.low.b3 ≤ IntKind.u8.max) ∧ (IntKind.u8.min ≤ x.low.b4 ∧ x.low.b4 ≤ IntKind.u8.max) ∧ (IntKind.u8.min ≤ x.low.b5 ∧ x.low.b5 ≤ IntKind.u8.max) ∧ (IntKind.u8.min ≤ x.low.b6 ∧ x.low.b6 ≤ IntKind.u8.max) ∧ (IntKind.u8.min ≤ x.low.b7 ∧ x.low.b7 ≤ IntKind.u8.max) ∧ (IntKind.u8.min ≤ x.low.b8 ∧ x.low.b8 ≤ IntKind.u8.max) ∧ (IntKind.u8.min ≤ x.low.b9 ∧ x.low.b9 ≤ IntKind.u8.max) ∧ (IntKind.u8.min ≤ x.low.b10 ∧ x.low.b10 ≤ IntKind.u8.max) ∧ (IntKind.u8.min ≤ x.low.b11 ∧ x.low.b11 ≤ IntKind.u8.max) ∧ (IntKind.u8.min ≤ x.low.b12 ∧ x.low.b12 ≤ IntKind.u8.max) ∧ (IntKind.u8.min ≤ x.low.b13 ∧ x.low.b13 ≤ IntKind.u8.max) ∧ (IntKind.u8.min ≤ x.low.b14 ∧ x.low.b14 ≤ IntKind.u8.max) ∧ (IntKind.u8.min ≤ x.low.b15 ∧ x.low.b15 ≤ IntKind.u8.max) ∧ (IntKind.u8.min ≤ x.low.b16 ∧ x.low.b16 ≤ IntKind.u8.max) ∧ (IntKind.u8.min ≤ x.low.b17 ∧ x.low.b17 ≤ IntKind.u8.max) ∧ (IntKind.u8.min ≤ x.low.b18 ∧ x.low.b18 ≤ IntKind.u8.max) ∧ (IntKind.u8.min ≤ x.low.b19 ∧ x.low.b19 ≤ IntKind.u8.max) ∧ (IntKind.u8.min ≤ x.low.b20 ∧ x.low.b20 ≤ IntKind.u8.max) ∧ (IntKind.u8.min ≤ x.low.b21 ∧ x.low.b21 ≤ IntKind.u8.max) ∧ (IntKind.u8.min ≤ x.low.b22 ∧ x.low.b22 ≤ IntKind.u8.max) ∧ (IntKind.u8.min ≤ x.low.b23 ∧ x.low.b23 ≤ IntKind.u8.max) ∧ (IntKind.u8.min ≤ x.low.b24 ∧ x.low.b24 ≤ IntKind.u8.max) ∧ (IntKind.u8.min ≤ x.low.b25 ∧ x.low.b25 ≤ IntKind.u8.max) ∧ (IntKind.u8.min ≤ x.low.b26 ∧ x.low.b26 ≤ IntKind.u8.max) ∧ (IntKind.u8.min ≤ x.low.b27 ∧ x.low.b27 ≤ IntKind.u8.max) ∧ (IntKind.u8.min ≤ x.low.b28 ∧ x.low.b28 ≤ IntKind.u8.max) ∧ (IntKind.u8.min ≤ x.low.b29 ∧ x.low.b29 ≤ IntKind.u8.max) ∧ (IntKind.u8.min ≤ x.low.b30 ∧ x.low.b30 ≤ IntKind.u8.max) ∧ (IntKind.u8.min ≤ x.low.b31 ∧ x.low.b31 ≤ IntKind.u8.max) ∧ (IntKind.u8.min ≤ x.high.b0 ∧ x.high.b0 ≤ IntKind.u8.max) ∧ (IntKind.u8.min ≤ x.high.b1 ∧ x.high.b1 ≤ IntKind.u8.max) ∧ (IntKind.u8.min ≤ x.high.b2 ∧ x.high.b2 ≤ IntKind.u8.max) ∧ (IntKind.u8.min ≤ x.high.b3 ∧ x.high.b3 ≤ IntKind.u8.max) ∧ (IntKind.u8.min ≤ x.high.b4 ∧ x.high.b4 ≤ IntKind.u8.max) ∧ (IntKind.u8.min ≤ x.high.b5 ∧ x.high.b5 ≤ IntKind.u8.max) ∧ (IntKind.u8.min ≤ x.high.b6 ∧ x.high.b6 ≤ IntKind.u8.max) ∧ (IntKind.u8.min ≤ x.high.b7 ∧ x.high.b7 ≤ IntKind.u8.max) ∧ (IntKind.u8.min ≤ x.high.b8 ∧ x.high.b8 ≤ IntKind.u8.max) ∧ (IntKind.u8.min ≤ x.high.b9 ∧ x.high.b9 ≤ IntKind.u8.max) ∧ (IntKind.u8.min ≤ x.high.b10 ∧ x.high.b10 ≤ IntKind.u8.max) ∧ (IntKind.u8.min ≤ x.high.b11 ∧ x.high.b11 ≤ IntKind.u8.max) ∧ (IntKind.u8.min ≤ x.high.b12 ∧ x.high.b12 ≤ IntKind.u8.max) ∧ (IntKind.u8.min ≤ x.high.b13 ∧ x.high.b13 ≤ IntKind.u8.max) ∧ (IntKind.u8.min ≤ x.high.b14 ∧ x.high.b14 ≤ IntKind.u8.max) ∧ (IntKind.u8.min ≤ x.high.b15 ∧ x.high.b15 ≤ IntKind.u8.max) ∧ (IntKind.u8.min ≤ x.high.b16 ∧ x.high.b16 ≤ IntKind.u8.max) ∧ (IntKind.u8.min ≤ x.high.b17 ∧ x.high.b17 ≤ IntKind.u8.max) ∧ (IntKind.u8.min ≤ x.high.b18 ∧ x.high.b18 ≤ IntKind.u8.max) ∧ (IntKind.u8.min ≤ x.high.b19 ∧ x.high.b19 ≤ IntKind.u8.max) ∧ (IntKind.u8.min ≤ x.high.b20 ∧ x.high.b20 ≤ IntKind.u8.max) ∧ (IntKind.u8.min ≤ x.high.b21 ∧ x.high.b21 ≤ IntKind.u8.max) ∧ (IntKind.u8.min ≤ x.high.b22 ∧ x.high.b22 ≤ IntKind.u8.max) ∧ (IntKind.u8.min ≤ x.high.b23 ∧ x.high.b23 ≤ IntKind.u8.max) ∧ (IntKind.u8.min ≤ x.high.b24 ∧ x.high.b24 ≤ IntKind.u8.max) ∧ (IntKind.u8.min ≤ x.high.b25 ∧ x.high.b25 ≤ IntKind.u8.max) ∧ (IntKind.u8.min ≤ x.high.b26 ∧ x.high.b26 ≤ IntKind.u8.max) ∧ (IntKind.u8.min ≤ x.high.b27 ∧ x.high.b27 ≤ IntKind.u8.max) ∧ (IntKind.u8.min ≤ x.high.b28 ∧ x.high.b28 ≤ IntKind.u8.max) ∧ (IntKind.u8.min ≤ x.high.b29 ∧ x.high.b29 ≤ IntKind.u8.max) ∧ (IntKind.u8.min ≤ x.high.b30 ∧ x.high.b30 ≤ IntKind.u8.max) ∧ (IntKind.u8.min ≤ x.high.b31 ∧ x.high.b31 ≤ IntKind.u8.max) ∧ (IntKind.i64.min ≤ x.count ∧ x.count ≤ IntKind.i64.max) ∧ (IntKind.u8.min ≤ x.print.b0 ∧ x.print.b0 ≤ IntKind.u8.max) ∧ (IntKind.u8.min ≤ x.print.b1 ∧ x.print.b1 ≤ IntKind.u8.max) ∧ (IntKind.u8.min ≤ x.print.b2 ∧ x.print.b2 ≤ IntKind.u8.max) ∧ (IntKind.u8.min ≤ x.print.b3 ∧ x.print.b3 ≤ IntKind.u8.max) ∧ (IntKind.u8.min ≤ x.print.b4 ∧ x.print.b4 ≤ IntKind.u8.max) ∧ (IntKind.u8.min ≤ x.print.b5 ∧ x.print.b5 ≤ IntKind.u8.max) ∧ (IntKind.u8.min ≤ x.print.b6 ∧ x.print.b6 ≤ IntKind.u8.max) ∧ (IntKind.u8.min ≤ x.print.b7 ∧ x.print.b7 ≤ IntKind.u8.max) ∧ (IntKind.u8.min ≤ x.print.b8 ∧ x.print.b8 ≤ IntKind.u8.max) ∧ (IntKind.u8.min ≤ x.print.b9 ∧ x.print.b9 ≤ IntKind.u8.max) ∧ (IntKind.u8.min ≤ x.print.b10 ∧ x.print.b10 ≤ IntKind.u8.max) ∧ (IntKind.u8.min ≤ x.print.b11 ∧ x.print.b11 ≤ IntKind.u8.max) ∧ (IntKind.u8.min ≤ x.print.b12 ∧ x.print.b12 ≤ IntKind.u8.max) ∧ (IntKind.u8.min ≤ x.print.b13 ∧ x.print.b13 ≤ IntKind.u8.max) ∧ (IntKind.u8.min ≤ x.print.b14 ∧ x.print.b14 ≤ IntKind.u8.max) ∧ (IntKind.u8.min ≤ x.print.b15 ∧ x.print.b15 ≤ IntKind.u8.max) ∧ (IntKind.u8.min ≤ x.print.b16 ∧ x.print.b16 ≤ IntKind.u8.max) ∧ (IntKind.u8.min ≤ x.print.b17 ∧ x.print.b17 ≤ IntKind.u8.max) ∧ (IntKind.u8.min ≤ x.print.b18 ∧ x.print.b18 ≤ IntKind.u8.max) ∧ (IntKind.u8.min ≤ x.print.b19 ∧ x.print.b19 ≤ IntKind.u8.max) ∧ (IntKind.u8.min ≤ x.print.b20 ∧ x.print.b20 ≤ IntKind.u8.max) ∧ (IntKind.u8.min ≤ x.print.b21 ∧ x.print.b21 ≤ IntKind.u8.max) ∧ (IntKind.u8.min ≤ x.print.b22 ∧ x.print.b22 ≤ IntKind.u8.max) ∧ (IntKind.u8.min ≤ x.print.b23 ∧ x.print.b23 ≤ IntKind.u8.max) ∧ (IntKind.u8.min ≤ x.print.b24 ∧ x.print.b24 ≤ IntKind.u8.max) ∧ (IntKind.u8.min ≤ x.print.b25 ∧ x.print.b25 ≤ IntKind.u8.max) ∧ (IntKind.u8.min ≤ x.print.b26 ∧ x.print.b26 ≤ IntKind.u8.max) ∧ (IntKind.u8.min ≤ x.print.b27 ∧ x.print.b27 ≤ IntKind.u8.max) ∧ (IntKind.u8.min ≤ x.print.b28 ∧ x.print.b28 ≤ IntKind.u8.max) ∧ (IntKind.u8.min ≤ x.print.b29 ∧ x.print.b29 ≤ IntKind.u8.max) ∧ (IntKind.u8.min ≤ x.print.b30 ∧ x.print.b30 ≤ IntKind.u8.max) ∧ (IntKind.u8.min ≤ x.print.b31 ∧ x.print.b31 ≤ IntKind.u8.max) ∧ (∀ y ∈ x.ids, wf_dig y)
def wf_sgn (x : Sgn) : Prop := (IntKind.i64.min ≤ x.index ∧ x.index ≤ IntKind.i64.max) ∧ (∀ y ∈ x.revealed, wf_dig y) ∧ (∀ y ∈ x.others, wf_dig y) ∧ (∀ y ∈ x.path, wf_dig y)
def wf_msg (x : Msg) : Prop := (IntKind.i64.min ≤ x.kind ∧ x.kind ≤ IntKind.i64.max) ∧ (∀ y ∈ x.ids, wf_dig y) ∧ (∀ y ∈ x.ranges, wf_rng y) ∧ (∀ y ∈ x.patches, wf_str y) ∧ (∀ y ∈ x.paths, wf_str y) ∧ (IntKind.i64.min ≤ x.code ∧ x.code ≤ IntKind.i64.max) ∧ (IntKind.i64.min ≤ x.sig.index ∧ x.sig.index ≤ IntKind.i64.max) ∧ (∀ y ∈ x.sig.revealed, wf_dig y) ∧ (∀ y ∈ x.sig.others, wf_dig y) ∧ (∀ y ∈ x.sig.path, wf_dig y)
def wf_ment (x : Ment) : Prop := (IntKind.i64.min ≤ x.key ∧ x.key ≤ IntKind.i64.max)
def wf_sexp (_ : Sx) : Prop := True
def wfE : (e : El) → ty e → Prop
  | .str, x => wf_str x
  | .u8, x => wf_u8 x
  | .dig, x => wf_dig x
  | .rng, x => wf_rng x
  | .sgn, x => wf_sgn x
  | .msg, x => wf_msg x
  | .ment, x => wf_ment x
  | .sexp, x => wf_sexp x
def wfL : (L : List Lf) → prodL L → Prop
  | [], _ => True
  | .int k :: r, g => (k.min ≤ g.1 ∧ g.1 ≤ k.max) ∧ wfL r g.2
  | .sl e :: r, g => (∀ x ∈ g.1, wfE e x) ∧ wfL r g.2
  | .bool :: r, g => wfL r g.2
  | .str :: r, g => wfL r g.2
  | .cst :: r, g => wfL r g.2
theorem wf_mk : ∀ (e : El) (g : prodL (lvs e)), wfL (lvs e) g → wfE e (mkE e g)
  | .str, _, _ => trivial
  | .u8, _, h => h.1
  | .dig, _, h => ⟨h.1, h.2.1, h.2.2.1, h.2.2.2.1, h.2.2.2.2.1, h.2.2.2.2.2.1, h.2.2.2.2.2.2.1, h.2.2.2.2.2.2.2.1, h.2.2.2.2.2.2.2.2.1, h.2.2.2.2.2.2.2.2.2.1, h.2.2.2.2.2.2.2.2.2.2.1, h.2.2.2.2.2.2.2.2.2.2.2.1, h.2.2.2.2.2.2.2.2.2.2.2.2.1, h.2.2.2.2.2.2.2.2.2.2.2.2.2.1, h.2.2.2.2.2.2.2.2.2.2.2.2.2.2.1, h.2.2.2.2.2.2.2.2.2.2.2.2.2.2.2.1, h.2.2.2.2.2.2.2.2.2.2.2.2.2.2.2.2.1, h.2.2.2.2.2.2.2.2.2.2.2.2.2.2.2.2.2.1, h.2.2.2.2.2.2.2.2.2.2.2.2.2.2.2.2.2.2.1, h.2.2.2.2.2.2.2.2.2.2.2.2.2.2.2.2.2.2.2.1, h.2.2.2.2.2.2.2.2.2.2.2.2.2.2.2.2.2.2.2.2.1, h.2.2.2.2.2.2.2.2.2.2.2.2.2.2.2.2.2.2.2.2.2.1, h.2.2.2.2.2.2.2.2.2.2.2.2.2.2.2.2.2.2.2.2.2.2.1, h.2.2.2.2.2.2.2.2.2.2.2.2.2.2.2.2.2.2.2.2.2.2.2.1, h.2.2.2.2.2.2.2.2.2.2.2.2.2.2.2.2.2.2.2.2.2.2.2.2.1, h.2.2.2.2.2.2.2.2.2.2.2.2.2.2.2.2.2.2.2.2.2.2.2.2.2.1, h.2.2.2.2.2.2.2.2.2.2.2.2.2.2.2.2.2.2.2.2.2.2.2.2.2.2.1, h.2.2.2.2.2.2.2.2.2.2.2.2.2.2.2.2.2.2.2.2.2.2.2.2.2.2.2.1, h.2.2.2.2.2.2.2.2.2.2.2.2.2.2.2.2.2.2.2.2.2.2.2.2.2.2.2.2.1, h.2.2.2.2.2.2.2.2.2.2.2.2.2.2.2.2.2.2.2.2.2.2.2.2.2.2.2.2.2.1, h.2.2.2.2.2.2.2.2.2.2.2.2.2.2.2.2.2.2.2.2.2.2.2.2.2.2.2.2.2.2.1, h.2.2.2.2.2.2.2.2.2.2.2.2.2.2.2.2.2.2.2.2.2.2.2.2.2.2.2.2.2.2.2.1⟩
  | .rng, _, h => ⟨h.1, h.2.1, h.2.2.1, h.2.2.2.1, h.2.2.2.2.1, h.2.2.2.2.2.1, h.2.2.2.2.2.2.1, h.2.2.2.2.2.2.2.1, h.2.2.2.2.2.2.2.2.1, h.2.2.2.2.2.2.2.2.2.1, h.2.2.2.2.2.2.2.2.2.2.1, h.2.2.2.2.2.2.2.2.2.2.2.1, h.2.2.2.2.2.2.2.2.2.2.2.2.1, h.2.2.2.2.2.2.2.2.2.2.2.2.2.1, h.2.2.2.2.2.2.2.2.2.2.2.2.2.2.1, h.2.2.2.2.2.2.2.2.2.2.2.2.2.2.2.1, h.2.2.2.2.2.2.2.2.2.2.2.2.2.2.2.2.1, h.2.2.2.2.2.2.2.2.2.2.2.2.2.2.2.2.2.1, h.2.2.2.2.2.2.2.2.2.2.2.2.2.2.2.2.2.2.1, h.2.2.2.2.2.2.2.2.2.2.2.2.2.2.2.2.2.2.2.1, h.2.2.2.2.2.2.2.2.2.2.2.2.2.2.2.2.2.2.2.2.1, h.2.2.2.2.2.2.2.2.2.2.2.2.2.2.2.2.2.2.2.2.2.1, h.2.2.2.2.2.2.2.2.2.2.2.2.2.2.2.2.2.2.2.2.2.2.1, h.2.2.2.2.2.2.2.2.2.2.2.2.2.2.2.2.2.2.2.2.2.2.2.1, h.2.2.2.2.2.2.2.2.2.2.2.2.2.2.2.2.2.2.2.2.2.2.2.2.1, h.2.2.2.2.2.2.2.2.2.2.2.2.2.2.2.2.2.2.2.2.2.2.2.2.2.1, h.2.2.2.2.2.2.2.2.2.2.2.2.2.2.2.2.2.2.2.2.2.2.2.2.2.2.1, h.2.2.2.2.2.2.2.2.2.2.2.2.2.2.2.2.2.2.2.2.2.2.2.2.2.2.2.1, h.2.2.2.2.2.2.2.2.2.2.2.2.2.2.2.2.2.2.2.2.2.2.2.2.2.2.2.2.1, h.2.2.2.2.2.2.2.2.2.2.2.2.2.2.2.2.2.2.2.2.2.2.2.2.2.2.2.2.2.1, h.2.2.2.2.2.2.2.2.2.2.2.2.2.2.2.2.2.2.2.2.2.2.2.2.2.2.2.2.2.2.1, h.2.2.2.2.2.2.2.2.2.2.2.2.2.2.2.2.2.2.2.2.2.2.2.2.2.2.2.2.2.2.2.1, h.2.2.2.2.2.2.2.2.2.2.2.2.2.2.2.2.2.2.2.2.2.2.2.2.2.2.2.2.2.2.2.2.1, h.2.2.2.2.2.2.2.2.2.2.2.2.2.2.2.2.2.2.2.2.2.2.2.2.2.2.2.2.2.2.2.2.2.1, h.2.2.2.2.2.2.2.2.2.2.2.2.2.2.2.2.2.2.2.2.2.2.2.2.2.2.2.2.2.2.2.2.2.2.1, h.2.2.2.2.2.2.2.2.2.2.2.2.2.2.2.2.2.2.2.2.2.2.2.2.2.2.2.2.2.2.2.2.2.2.2.1, h.2.2.2.2.2.2.2.2.2.2.2.2.2.2.2.2.2.2.2.2.2.2.2.2.2.2.2.2.2.2.2.2.2.2.2.2.1, h.2.2.2.2.2.2.2.2.2.2.2.2.2.2.2.2.2.2.2.2.2.2.2.2.2.2.2.2.2.2.2.2.2.2.2.2.2.1, h.2.2.2.2.2.2.2.2.2.2.2.2.2.2.2.2.2.2.2.2.2.2.2.2.2.2.2.2.2.2.2.2.2.2.2.2.2.2.1, h.2.2.2.2.2.2.2.2.2.2.2.2.2.2.2.2.2.2.2.2.2.2.2.2.2.2.2.2.2.2.2.2.2.2.2.2.2.2.2.1, h.2.2.2.2.2.2.2.2.2.2.2.2.2.2.2.2.2.2.2.2.2.2.2.2.2.2.2.2.2.2.2.2.2.2.2.2.2.2.2.2.1, h.2.2.2.2.2.2.2.2.2.2.2.2.2.2.2.2.2.2.2.2.2.2.2.2.2.2.2.2.2.2.2.2.2.2.2.2.2.2.2.2.2.1, h.2.2.2.2.2.2.2.2.2.2.2.2.2.2.2.2.2.2.2.2.2.2.2.2.2.2.2.2.2.2.2.2.2.2.2.2.2.2.2.2.2.2.1, h.2.2.2.2.2.2.2.2.2.2.2.2.2.2.2.2.2.2.2.2.2.2.2.2.2.2.2.2.2.2.2.2.2.2.2.2.2.2.2.2.2.2.2.1, h.2.2.2.2.2.2.2.2.2.2.2.2.2.2.2.2.2.2.2.2.2.2.2.2.2.2.2.2.2.2.2.2.2.2.2.2.2.2.2.2.2.2.2.2.1, h.2.2.2.2.2.2.2.2.2.2.2.2.2.2.2.2.2.2.2.2.2.2.2.2.2.2.2.2.2.2.2.2.2.2.2.2.2.2.2.2.2.2.2.2.2.1, h.2.2.2.2.2.2.2.2.2.2.2.2.2.2.2.2.2.2.2.2.2.2.2.2.2.2.2.2.2.2.2.2.2.2.2.2.2.2.2.2.2.2.2.2.2.2.1, h.2.2.2.2.2.2.2.2.2.2.2.2.2.2.2.2.2.2.2.2.2.2.2.2.2.2.2.2.2.2.2.2.2.2.2.2.2.2.2.2.2.2.2.2.2.2.2.1, h.2.2.2.2.2.2.2.2.2.2.2.2.2.2.2.2.2.2.2.2.2.2.2.2.2.2.2.2.2.2.2.2.2.2.2.2.2.2.2.2.2.2.2.2.2.2.2.2.1, h.2.2.2.2.2.2.2.2.2.2.2.2.2.2.2.2.2.2.2.2.2.2.2.2.2.2.2.2.2.2.2.2.2.2.2.2.2.2.2.2.2.2.2.2.2.2.2.2.2.1, h.2.2.2.2.2.2.2.2.2.2.2.2.2.2.2.2.2.2.2.2.2.2.2.2.2.2.2.2.2.2.2.2.2.2.2.2.2.2.2.2.2.2.2.2.2.2.2.2.2.2.1, h.2.2.2.2.2.2.2.2.2.2.2.2.2.2.2.2.2.2.2.2.2.2.2.2.2.2.2.2.2.2.2.2.2.2.2.2.2.2.2.2.2.2.2.2.2.2.2.2.2.2.2.1, h.2.2.2.2.2.2.2.2.2.2.2.2.2.2.2.2.2.2.2.2.2.2.2.2.2.2.2.2.2.2.2.2.2.2.2.2.2.2.2.2.2.2.2.2.2.2.2.2.2.2.2.2.1, h.2.2.2.2.2.2.2.2.2.2.2.2.2.2.2.2.2.2.2.2.2.2.2.2.2.2.2.2.2.2.2.2.2.2.2.2.2.2.2.2.2.2.2.2.2.2.2.2.2.2.2.2.2.1, h.2.2.2.2.2.2.2.2.2.2.2.2.2.2.2.2.2.2.2.2.2.2.2.2.2.2.2.2.2.2.2.2.2.2.2.2.2.2.2.2.2.2.2.2.2.2.2.2.2.2.2.2.2.2.1, h.2.2.2.2.2.2.2.2.2.2.2.2.2.2.2.2.2.2.2.2.2.2.2.2.2.2.2.2.2.2.2.2.2.2.2.2.2.2.2.2.2.2.2.2.2.2.2.2.2.2.2.2.2.2.2.1, h.2.2.2.2.2.2.2.2.2.2.2.2.2.2.2.2.2.2.2.2.2.2.2.2.2.2.2.2.2.2.2.2.2.2.2.2.2.2.2.2.2.2.2.2.2.2.2.2.2.2.2.2.2.2.2.2.1, h.2.2.2.2.2.2.2.2.2.2.2.2.2.2.2.2.2.2.2.2.2.2.2.2.2.2.2.2.2.2.2.2.2.2.2.2.2.2.2.2.2.2.2.2.2.2.2.2.2.2.2.2.2.2.2.2.2.1, h.2.2.2.2.2.2.2.2.2.2.2.2.2.2.2.2.2.2.2.2.2.2.2.2.2.2.2.2.2.2.2.2.2.2.2.2.2.2.2.2.2.2.2.2.2.2.2.2.2.2.2.2.2.2.2.2.2.2.1, h.2.2.2.2.2.2.2.2.2.2.2.2.2.2.2.2.2.2.2.2.2.2.2.2.2.2.2.2.2.2.2.2.2.2.2.2.2.2.2.2.2.2.2.2.2.2.2.2.2.2.2.2.2.2.2.2.2.2.2.1, h.2.2.2.2.2.2.2.2.2.2.2.2.2.2.2.2.2.2.2.2.2.2.2.2.2.2.2.2.2.2.2.2.2.2.2.2.2.2.2.2.2.2.2.2.2.2.2.2.2.2.2.2.2.2.2.2.2.2.2.2.1, h.2.2.2.2.2.2.2.2.2.2.2.2.2.2.2.2.2.2.2.2.2.2.2.2.2.2.2.2.2.2.2.2.2.2.2.2.2.2.2.2.2.2.2.2.2.2.2.2.2.2.2.2.2.2.2.2.2.2.2.2.2.1, h.2.2.2.2.2.2.2.2.2.2.2.2.2.2.2.2.2.2.2.2.2.2.2.2.2.2.2.2.2.2.2.2.2.2.2.2.2.2.2.2.2.2.2.2.2.2.2.2.2.2.2.2.2.2.2.2.2.2.2.2.2.2.1, h.2.2.2.2.2.2.2.2.2.2.2.2.2.2.2.2.2.2.2.2.2.2.2.2.2.2.2.2.2.2.2.2.2.2.2.2.2.2.2.2.2.2.2.2.2.2.2.2.2.2.2.2.2.2.2.2.2.2.2.2.2.2.2.1, h.2.2.2.2.2.2.2.2.2.2.2.2.2.2.2.2.2.2.2.2.2.2.2.2.2.2.2.2.2.2.2.2.2.2.2.2.2.2.2.2.2.2.2.2.2.2.2.2.2.2.2.2.2.2.2.2.2.2.2.2.2.2.2.2.1, h.2.2.2.2.2.2.2.2.2.2.2.2.2.2.2.2.2.2.2.2.2.2.2.2.2.2.2.2.2.2.2.2.2.2.2.2.2.2.2.2.2.2.2.2.2.2.2.2.2.2.2.2.2.2.2.2.2.2.2.2.2.2.2.2.2.1, h.2.2.2.2.2.2.2.2.2.2.2.2.2.2.2.2.2.2.2.2.2.2.2.2.2.2.2.2.2.2.2.2.2.2.2.2.2.2.2.2.2.2.2.2.2.2.2.2.2.2.2.2.2.2.2.2.2.2.2.2.2.2.2.2.2.2.1, h.2.2.2.2.2.2.2.2.2.2.2.2.2.2.2.2.2.2.2.2.2.2.2.2.2.2.2.2.2.2.2.2.2.2.2.2.2.2.2.2.2.2.2.2.2.2.2.2.2.2.2.2.2.2.2.2.2.2.2.2.2.2.2.2.2.2.2.1, h.2.2.2.2.2.2.2.2.2.2.2.2.2.2.2.2.2.2.2.2.2.2.2.2.2.2.2.2.2.2.2.2.2.2.2.2.2.2.2.2.2.2.2.2.2.2.2.2.2.2.2.2.2.2.2.2.2.2.2.2.2.2.2.2.2.2.2.2.1, h.2.2.2.2.2.2.2.2.2.2.2.2.2.2.2.2.2.2.2.2.2.2.2.2.2.2.2.2.2.2.2.2.2.2.2.2.2.2.2.2.2.2.2.2.2.2.2.2.2.2.2.2.2.2.2.2.2.2.2.2.2.2.2.2.2.2.2.2.2.1, h.2.2.2.2.2.2.2.2.2.2.2.2.2.2.2.2.2.2.2.2.2.2.2.2.2.2.2.2.2.2.2.2.2.2.2.2.2.2.2.2.2.2.2.2.2.2.2.2.2.2.2.2.2.2.2.2.2.2.2.2.2.2.2.2.2.2.2.2.2.2.1, h.2.2.2.2.2.2.2.2.2.2.2.2.2.2.2.2.2.2.2.2.2.2.2.2.2.2.2.2.2.2.2.2.2.2.2.2.2.2.2.2.2.2.2.2.2.2.2.2.2.2.2.2.2.2.2.2.2.2.2.2.2.2.2.2.2.2.2.2.2.2.2.1, h.2.2.2.2.2.2.2.2.2.2.2.2.2.2.2.2.2.2.2.2.2.2.2.2.2.2.2.2.2.2.2.2.2.2.2.2.2.2.2.2.2.2.2.2.2.2.2.2.2.2.2.2.2.2.2.2.2.2.2.2.2.2.2.2.2.2.2.2.2.2.2.2.1, h.2.2.2.2.2.2.2.2.2.2.2.2.2.2.2.2.2.2.2.2.2.2.2.2.2.2.2.2.2.2.2.2.2.2.2.2.2.2.2.2.2.2.2.2.2.2.2.2.2.2.2.2.2.2.2.2.2.2.2.2.2.2.2.2.2.2.2.2.2.2.2.2.2.1, h.2.2.2.2.2.2.2.2.2.2.2.2.2.2.2.2.2.2.2.2.2.2.2.2.2.2.2.2.2.2.2.2.2.2.2.2.2.2.2.2.2.2.2.2.2.2.2.2.2.2.2.2.2.2.2.2.2.2.2.2.2.2.2.2.2.2.2.2.2.2.2.2.2.2.1, h.2.2.2.2.2.2.2.2.2.2.2.2.2.2.2.2.2.2.2.2.2.2.2.2.2.2.2.2.2.2.2.2.2.2.2.2.2.2.2.2.2.2.2.2.2.2.2.2.2.2.2.2.2.2.2.2.2.2.2.2.2.2.2.2.2.2.2.2.2.2.2.2.2.2.2.1, h.2.2.2.2.2.2.2.2.2.2.2.2.2.2.2.2.2.2.2.2.2.2.2.2.2.2.2.2.2.2.2.2.2.2.2.2.2.2.2.2.2.2.2.2.2.2.2.2.2.2.2.2.2.2.2.2.2.2.2.2.2.2.2.2.2.2.2.2.2.2.2.2.2.2.2.2.1, h.2.2.2.2.2.2.2.2.2.2.2.2.2.2.2.2.2.2.2.2.2.2.2.2.2.2.2.2.2.2.2.2.2.2.2.2.2.2.2.2.2.2.2.2.2.2.2.2.2.2.2.2.2.2.2.2.2.2.2.2.2.2.2.2.2.2.2.2.2.2.2.2.2.2.2.2.2.1, h.2.2.2.2.2.2.2.2.2.2.2.2.2.2.2.2.2.2.2.2.2.2.2.2.2.2.2.2.2.2.2.2.2.2.2.2.2.2.2.2.2.2.2.2.2.2.2.2.2.2.2.2.2.2.2.2.2.2.2.2.2.2.2.2.2.2.2.2.2.2.2.2.2.2.2.2.2.2.1, h.2.2.2.2.2.2.2.2.2.2.2.2.2.2.2.2.2.2.2.2.2.2.2.2.2.2.2.2.2.2.2.2.2.2.2.2.2.2.2.2.2.2.2.2.2.2.2.2.2.2.2.2.2.2.2.2.2.2.2.2.2.2.2.2.2.2.2.2.2.2.2.2.2.2.2.2.2.2.2.1, h.2.2.2.2.2.2.2.2.2.2.2.2.2.2.2.2.2.2.2.2.2.2.2.2.2.2.2.2.2.2.2.2.2.2.2.2.2.2.2.2.2.2.2.2.2.2.2.2.2.2.2.2.2.2.2.2.2.2.2.2.2.2.2.2.2.2.2.2.2.2.2.2.2.2.2.2.2.2.2.2.1, h.2.2.2.2.2.2.2.2.2.2.2.2.2.2.2.2.2.2.2.2.2.2.2.2.2.2.2.2.2.2.2.2.2.2.2.2.2.2.2.2.2.2.2.2.2.2.2.2.2.2.2.2.2.2.2.2.2.2.2.2.2.2.2.2.2.2.2.2.2.2.2.2.2.2.2.2.2.2.2.2.2.1, h.2.2.2.2.2.2.2.2.2.2.2.2.2.2.2.2.2.2.2.2.2.2.2.2.2.2.2.2.2.2.2.2.2.2.2.2.2.2.2.2.2.2.2.2.2.2.2.2.2.2.2.2.2.2.2.2.2.2.2.2.2.2.2.2.2.2.2.2.2.2.2.2.2.2.2.2.2.2.2.2.2.2.1, h.2.2.2.2.2.2.2.2.2.2.2.2.2.2.2.2.2.2.2.2.2.2.2.2.2.2.2.2.2.2.2.2.2.2.2.2.2.2.2.2.2.2.2.2.2.2.2.2.2.2.2.2.2.2.2.2.2.2.2.2.2.2.2.2.2.2.2.2.2.2.2.2.2.2.2.2.2.2.2.2.2.2.2.1, h.2.2.2.2.2.2.2.2.2.2.2.2.2.2.2.2.2.2.2.2.2.2.2.2.2.2.2.2.2.2.2.2.2.2.2.2.2.2.2.2.2.2.2.2.2.2.2.2.2.2.2.2.2.2.2.2.2.2.2.2.2.2.2.2.2.2.2.2.2.2.2.2.2.2.2.2.2.2.2.2.2.2.2.2.1, h.2.2.2.2.2.2.2.2.2.2.2.2.2.2.2.2.2.2.2.2.2.2.2.2.2.2.2.2.2.2.2.2.2.2.2.2.2.2.2.2.2.2.2.2.2.2.2.2.2.2.2.2.2.2.2.2.2.2.2.2.2.2.2.2.2.2.2.2.2.2.2.2.2.2.2.2.2.2.2.2.2.2.2.2.2.1, h.2.2.2.2.2.2.2.2.2.2.2.2.2.2.2.2.2.2.2.2.2.2.2.2.2.2.2.2.2.2.2.2.2.2.2.2.2.2.2.2.2.2.2.2.2.2.2.2.2.2.2.2.2.2.2.2.2.2.2.2.2.2.2.2.2.2.2.2.2.2.2.2.2.2.2.2.2.2.2.2.2.2.2.2.2.2.1, h.2.2.2.2.2.2.2.2.2.2.2.2.2.2.2.2.2.2.2.2.2.2.2.2.2.2.2.2.2.2.2.2.2.2.2.2.2.2.2.2.2.2.2.2.2.2.2.2.2.2.2.2.2.2.2.2.2.2.2.2.2.2.2.2.2.2.2.2.2.2.2.2.2.2.2.2.2.2.2.2.2.2.2.2.2.2.2.1, h.2.2.2.2.2.2.2.2.2.2.2.2.2.2.2.2.2.2.2.2.2.2.2.2.2.2.2.2.2.2.2.2.2.2.2.2.2.2.2.2.2.2.2.2.2.2.2.2.2.2.2.2.2.2.2.2.2.2.2.2.2.2.2.2.2.2.2.2.2.2.2.2.2.2.2.2.2.2.2.2.2.2.2.2.2.2.2.2.1, h.2.2.2.2.2.2.2.2.2.2.2.2.2.2.2.2.2.2.2.2.2.2.2.2.2.2.2.2.2.2.2.2.2.2.2.2.2.2.2.2.2.2.2.2.2.2.2.2.2.2.2.2.2.2.2.2.2.2.2.2.2.2.2.2.2.2.2.2.2.2.2.2.2.2.2.2.2.2.2.2.2.2.2.2.2.2.2.2.2.1, h.2.2.2.2.2.2.2.2.2.2.2.2.2.2.2.2.2.2.2.2.2.2.2.2.2.2.2.2.2.2.2.2.2.2.2.2.2.2.2.2.2.2.2.2.2.2.2.2.2.2.2.2.2.2.2.2.2.2.2.2.2.2.2.2.2.2.2.2.2.2.2.2.2.2.2.2.2.2.2.2.2.2.2.2.2.2.2.2.2.2.1, h.2.2.2.2.2.2.2.2.2.2.2.2.2.2.2.2.2.2.2.2.2.2.2.2.2.2.2.2.2.2.2.2.2.2.2.2.2.2.2.2.2.2.2.2.2.2.2.2.2.2.2.2.2.2.2.2.2.2.2.2.2.2.2.2.2.2.2.2.2.2.2.2.2.2.2.2.2.2.2.2.2.2.2.2.2.2.2.2.2.2.2.1, h.2.2.2.2.2.2.2.2.2.2.2.2.2.2.2.2.2.2.2.2.2.2.2.2.2.2.2.2.2.2.2.2.2.2.2.2.2.2.2.2.2.2.2.2.2.2.2.2.2.2.2.2.2.2.2.2.2.2.2.2.2.2.2.2.2.2.2.2.2.2.2.2.2.2.2.2.2.2.2.2.2.2.2.2.2.2.2.2.2.2.2.2.1, h.2.2.2.2.2.2.2.2.2.2.2.2.2.2.2.2.2.2.2.2.2.2.2.2.2.2.2.2.2.2.2.2.2.2.2.2.2.2.2.2.2.2.2.2.2.2.2.2.2.2.2.2.2.2.2.2.2.2.2.2.2.2.2.2.2.2.2.2.2.2.2.2.2.2.2.2.2.2.2.2.2.2.2.2.2.2.2.2.2.2.2.2.2.1, h.2.2.2.2.2.2.2.2.2.2.2.2.2.2.2.2.2.2.2.2.2.2.2.2.2.2.2.2.2.2.2.2.2.2.2.2.2.2.2.2.2.2.2.2.2.2.2.2.2.2.2.2.2.2.2.2.2.2.2.2.2.2.2.2.2.2.2.2.2.2.2.2.2.2.2.2.2.2.2.2.2.2.2.2.2.2.2.2.2.2.2.2.2.2.1, h.2.2.2.2.2.2.2.2.2.2.2.2.2.2.2.2.2.2.2.2.2.2.2.2.2.2.2.2.2.2.2.2.2.2.2.2.2.2.2.2.2.2.2.2.2.2.2.2.2.2.2.2.2.2.2.2.2.2.2.2.2.2.2.2.2.2.2.2.2.2.2.2.2.2.2.2.2.2.2.2.2.2.2.2.2.2.2.2.2.2.2.2.2.2.2.1, h.2.2.2.2.2.2.2.2.2.2.2.2.2.2.2.2.2.2.2.2.2.2.2.2.2.2.2.2.2.2.2.2.2.2.2.2.2.2.2.2.2.2.2.2.2.2.2.2.2.2.2.2.2.2.2.2.2.2.2.2.2.2.2.2.2.2.2.2.2.2.2.2.2.2.2.2.2.2.2.2.2.2.2.2.2.2.2.2.2.2.2.2.2.2.2.2.1, h.2.2.2.2.2.2.2.2.2.2.2.2.2.2.2.2.2.2.2.2.2.2.2.2.2.2.2.2.2.2.2.2.2.2.2.2.2.2.2.2.2.2.2.2.2.2.2.2.2.2.2.2.2.2.2.2.2.2.2.2.2.2.2.2.2.2.2.2.2.2.2.2.2.2.2.2.2.2.2.2.2.2.2.2.2.2.2.2.2.2.2.2.2.2.2.2.2.1⟩
  | .sgn, _, h => ⟨h.1, h.2.1, h.2.2.1, h.2.2.2.1⟩
  | .msg, _, h => ⟨h.1, h.2.1, h.2.2.1, h.2.2.2.1, h.2.2.2.2.1, h.2.2.2.2.2.1, h.2.2.2.2.2.2.1, h.2.2.2.2.2.2.2.1, h.2.2.2.2.2.2.2.2.1, h.2.2.2.2.2.2.2.2.2.1⟩
  | .ment, _, h => h.1
  | .sexp, _, _ => trivial
end Go.Proofs.YtoclmkbjgmgekaaDoor

/-
  The machine over typed values, 22: arguments that are read as a row reads them are values of the machine.
-/
namespace Go.Proofs.YtoclmkbjgmgekaaDoor
set_option linter.unusedVariables false
set_option linter.unusedSimpArgs false
set_option linter.unusedSectionVars false
open Go.RowKit Go.ChangeShapes
variable {P : Program}

mutual
inductive Rd (w : World) : T → Value → Prop where
  | int (k : IntKind) (n : Int) : Rd w (.int k n) (.int k n)
  | bool (b : Bool) : Rd w (.bool b) (.bool b)
  | str (s : ByteArray) : Rd w (.str s) (.string s)
  | cst (v : Value) : v.oneCell' = true → Rd w (.cst v) v
  | sl0 (e : El) (A : Option Addr) (c : Nat) : c ≤ maxLen → Rd w (.sl false e []) (.slice A 0 c)
  | sl (e : El) (l : List (ty e)) (b off : Nat) (cs : List T) (c : Nat) : l.length ≤ c → c ≤ maxLen → RdB w b cs → (cs.drop off).take (l.length * sz e) = encs e l → Rd w (.sl false e l) (.slice (some ⟨b, off, none⟩) l.length c)
inductive RdB (w : World) : Nat → List T → Prop where
  | mk (b : Nat) (cs : List T) (blk : Array Value) (E : TypeId) (fr : Nat × Nat) : w.heap[b]? = some (.cells blk E fr) → (∀ n : Nat, cs ≠ [.tu [.int .i64 (n : Int)]]) → cs.length ≤ blk.size → (∀ (j : Nat) (u : T) (x : Value), cs[j]? = some u → blk[j]? = some x → u.pure1 = true → Rd w u x) → RdB w b cs
  | ex (b n : Nat) (blk : Array Value) (E : TypeId) (fr : Nat × Nat) : w.heap[b]? = some (.cells blk E fr) → blk.size = n → 0 < n → RdB w b [.tu [.int .i64 (n : Int)]]
end
/-- The ghost of a call's first world: whatever can be read is read only. -/
def g0 (P : Program) (w : World) : G P := ⟨.mk, RdB w, fun _ _ => none, fun _ _ => False, fun _ => False⟩
theorem Rd.R {P : Program} {w : World} {u : T} {x : Value} (h : Rd w u x) : R (g0 P w) u x ∧ x.oneCell' = true := by
  cases h with
  | int k n => exact ⟨.int k n, rfl⟩
  | bool b => exact ⟨.bool b, rfl⟩
  | str s => exact ⟨.str s, rfl⟩
  | cst v h => exact ⟨.cst _, h⟩
  | sl0 e A c h => exact ⟨.sl false e [] A c (Nat.zero_le _) h (by simp) (by simp), rfl⟩
  | sl e l b off cs c h1 h2 h3 h4 => exact ⟨.sl false e l _ c h1 h2 (by simp) fun _ => ⟨b, off, cs, rfl, h3, h4⟩, rfl⟩
theorem good0 {P : Program} (w : World) (hl : LaidG (RdB w)) : Good (g0 P w) [] w := by
  refine ⟨fun b cs h => ?_, fun k o h => by simp at h, fun k k' o o' b h => by simp at h, fun k v oi h => by simp [g0] at h, fun _ _ h => h.elim, fun _ h => h.elim, hl⟩
  cases h with
  | ex _ n blk E fr h1 h2 h3 =>
    refine ⟨blk, E, fr, h1, fun m e => ?_, by simp; omega, fun j u hj hp => ?_⟩
    · simp only [List.cons.injEq, T.tu.injEq, T.int.injEq, true_and, and_true] at e
      omega
    · cases j with
      | zero => simp at hj; subst hj; simp [T.pure1] at hp
      | succ j => simp at hj
  | mk _ _ blk E fr h1 hne h2 h3 =>
    refine ⟨blk, E, fr, h1, fun n e => absurd e (hne n), h2, fun j u hj hp => ?_⟩
    have hlt : j < blk.size := Nat.lt_of_lt_of_le (List.getElem?_eq_some_iff.1 hj).1 h2
    have h := (h3 j u _ hj (Array.getElem?_eq_getElem hlt) hp).R (P := P)
    exact ⟨_, Array.getElem?_eq_getElem hlt, h.2, h.1⟩
def RdL (w : World) : List T → List Value → Prop
  | [], [] => True
  | u :: us, x :: xs => Rd w u x ∧ RdL w us xs
  | _, _ => False
theorem RdL.len {w : World} : ∀ {us : List T} {xs : List Value}, RdL w us xs → us.length = xs.length
  | [], [], _ => rfl
  | _ :: us, _ :: xs, h => by simp [RdL.len (us := us) (xs := xs) h.2]
  | [], _ :: _, h => h.elim
  | _ :: _, [], h => h.elim
theorem RdL.append {w : World} : ∀ {us us' : List T} {xs xs' : List Value}, RdL w us xs → RdL w us' xs' → RdL w (us ++ us') (xs ++ xs')
  | [], _, [], _, _, h => h
  | _ :: us, _, _ :: xs, _, h, k => ⟨h.1, RdL.append (us := us) (xs := xs) h.2 k⟩
  | [], _, _ :: _, _, h, _ => h.elim
  | _ :: _, _, [], _, h, _ => h.elim
theorem RdL.get {w : World} : ∀ {us : List T} {xs : List Value}, RdL w us xs → ∀ (i : Nat) (u : T) (x : Value), us[i]? = some u → xs[i]? = some x → Rd w u x
  | [], [], _, i, u, x, h, _ => by simp at h
  | v :: us, y :: xs, h, 0, u, x, hu, hx => by simp at hu hx; subst hu; subst hx; exact h.1
  | v :: us, y :: xs, h, i + 1, u, x, hu, hx => by simp at hu hx; exact RdL.get h.2 i u x hu hx
  | [], _ :: _, h, _, _, _, _, _ => h.elim
  | _ :: _, [], h, _, _, _, _, _ => h.elim

/-! ### Leaves, one after the other -/
def appG : (L M : List Lf) → prodL L → prodL M → prodL (L ++ M)
  | [], _, _, g => g
  | _ :: r, M, g, k => (g.1, appG r M g.2 k)
theorem envT_app : ∀ (L M : List Lf) (g : prodL L) (k : prodL M), envT (L ++ M) (appG L M g k) = envT L g ++ envT M k
  | [], _, _, _ => rfl
  | a :: r, M, g, k => by simp only [List.cons_append, envT, appG, envT_app r M g.2 k]
theorem bkL_app : ∀ (L M : List Lf) (g : prodL L) (k : prodL M), bkL (L ++ M) (appG L M g k) = bkL L g + bkL M k
  | [], _, _, _ => by simp [bkL, appG]
  | a :: r, M, g, k => by
    have := bkL_app r M g.2 k
    cases a <;> simp only [List.cons_append, bkL, appG] <;> omega
theorem wfL_app : ∀ (L M : List Lf) (g : prodL L) (k : prodL M), wfL L g → wfL M k → wfL (L ++ M) (appG L M g k)
  | [], _, _, _, _, h => h
  | a :: r, M, g, k, h, h' => by
    cases a with
    | int => exact ⟨h.1, wfL_app r M g.2 k h.2 h'⟩
    | sl => exact ⟨h.1, wfL_app r M g.2 k h.2 h'⟩
    | bool => exact wfL_app r M g.2 k h h'
    | str => exact wfL_app r M g.2 k h h'
    | cst => exact wfL_app r M g.2 k h h'
theorem envT_len : ∀ (L : List Lf) (g : prodL L), (envT L g).length = L.length
  | [], _ => rfl
  | _ :: r, g => by simp [envT, envT_len r g.2]

def flatFs (F : TypeId → Option (List Lf)) : Nat → List (Nat × TypeId) → Option (List Lf)
  | _, [] => some []
  | o, (off, t) :: r => match decide (off = o), F t with
    | true, some L => match flatFs F (o + L.length) r with
      | some M => some (L ++ M)
      | none => none
    | _, _ => none
/-- The leaves of a type: a struct's cells, one after the other. -/
def flatL (D : TD) : Nat → TypeId → Option (List Lf)
  | 0, _ => none
  | n + 1, t => match tyOf D t with
    | some ti => match ti.srt with
      | .int k => some [.int k]
      | .bool => some [.bool]
      | .string => some [.str]
      | .slice e => match tyOf D e with
        | some te => match te.el with
          | some k => some [.sl k]
          | none => none
        | none => none
      | .struct fs => match flatFs (flatL D n) 0 fs with
        | some L => match decide (L.length = ti.size) with
          | true => some L
          | false => none
        | none => none
      | .array m e => match tyOf D e with
        | some te => match flatFs (flatL D n) 0 ((List.range' 0 m).map fun i => (i * te.size, e)) with
          | some L => match decide (L.length = ti.size) with
            | true => some L
            | false => none
          | none => none
        | none => none
      | _ => none
    | none => none
abbrev KindsOk (D : TD) : Prop := ∀ t te e, tyOf D t = some te → te.el = some e → ∃ m, flatL D m t = some (lvs e)

section
variable {P : Program} {D : TD} {w : World} {H : Type} {en : TypeId × Value → H}
theorem mapM_get {α β : Type} {f : α → Option β} {l : List α} {r : List β} (h : l.mapM f = some r) : r.length = l.length ∧ ∀ (i : Nat) (x : α) (y : β), l[i]? = some x → r[i]? = some y → f x = some y :=
  ⟨mapM_some_length h, fun i x y hx hy => by rw [mapM_some_get h i x hx, hy]⟩
theorem cellsOf_ti {t : TypeId} {ti : TI} (h : TIok P t ti) : P.cellsOf t = ti.size := by
  obtain ⟨i, h1, h2, _⟩ := h.info
  simp [Program.cellsOf, h1, h2]
theorem cells_at {b : Nat} {a : Addr} {n : Nat} {l : List Value} (h : w.cells? b a n = some l) : l.length = n ∧ ∀ (i : Nat) (x : Value), l[i]? = some x → w.cell? (a.add i) = some x := by
  unfold World.cells? at h
  split at h
  · obtain ⟨h1, h2⟩ := mapM_get h
    refine ⟨by simpa using h1, fun i x hx => ?_⟩
    have hi : i < n := by have := (List.getElem?_eq_some_iff.1 hx).1; simpa [h1] using this
    exact h2 i i x (by simp [hi]) hx
  · cases h
theorem encs_split {e : El} {l : List (ty e)} {J : Nat} {u : T} (h : (encs e l)[J]? = some u) : ∃ i j x, J = i * sz e + j ∧ j < sz e ∧ l[i]? = some x ∧ (enc e x)[j]? = some u := by
  have hp := sz_pos e
  have hlt : J < l.length * sz e := by have := (List.getElem?_eq_some_iff.1 h).1; rwa [encs_len] at this
  have hi : J / sz e < l.length := by rw [Nat.div_lt_iff_lt_mul hp]; exact hlt
  have hj := Nat.mod_lt J hp
  have hJ : J = J / sz e * sz e + J % sz e := by rw [Nat.mul_comm]; exact (Nat.div_add_mod J (sz e)).symm
  refine ⟨J / sz e, J % sz e, l[J / sz e], hJ, hj, List.getElem?_eq_getElem hi, ?_⟩
  rw [← encs_get (List.getElem?_eq_getElem hi) hj, ← hJ]
  exact h
theorem take_len {α : Type} {l : List α} {n m : Nat} (h : (l.take n).length = m) : l.take n = l.take m := by
  rw [List.length_take] at h
  by_cases e : n ≤ l.length
  · rw [Nat.min_eq_left e] at h; rw [h]
  · rw [List.take_of_length_le (by omega), List.take_of_length_le (by omega)]
theorem flat_fields {fuel : Nat} {F : TypeId → Option (List Lf)} {cs : List Value}
    (ih : ∀ t L cs x, F t = some L → DataW.trod en P w 0 (fun _ => true) true fuel t cs = some x → ∃ g : prodL L, RdL w (envT L g) cs ∧ wfL L g ∧ bkL L g ≤ Rows.uptoBulk x.1) :
    ∀ (fs : List Field) (o : Nat) (L : List Lf) (xs : List (DataW H × List MemPlace)), flatFs F o (fs.map fun f => (f.offset, f.type)) = some L → fs.mapM (fun f => DataW.trod en P w 0 (fun _ => true) true fuel f.type ((cs.drop f.offset).take (P.cellsOf f.type))) = some xs →
      ∃ g : prodL L, RdL w (envT L g) ((cs.drop o).take L.length) ∧ wfL L g ∧ bkL L g ≤ Rows.uptoBulkAll (xs.map (·.1))
  | [], o, L, xs, h, k => by
    simp [flatFs] at h
    subst h
    exact ⟨(), by simp [envT, RdL], trivial, Nat.zero_le _⟩
  | f :: fs, o, L, xs, h, k => by
    simp only [List.map_cons, flatFs] at h
    split at h
    case h_2 => cases h
    rename_i A hd hA
    have hd := of_decide_eq_true hd
    split at h
    case h_2 => cases h
    rename_i M hM
    simp only [Option.some.injEq] at h
    subst h
    rw [List.mapM_cons] at k
    cases hx : DataW.trod en P w 0 (fun _ => true) true fuel f.type ((cs.drop f.offset).take (P.cellsOf f.type)) with
    | none => rw [hx] at k; cases k
    | some x =>
      rw [hx] at k
      cases hr : fs.mapM (fun f => DataW.trod en P w 0 (fun _ => true) true fuel f.type ((cs.drop f.offset).take (P.cellsOf f.type))) with
      | none => rw [hr] at k; cases k
      | some r =>
        rw [hr] at k
        have k : x :: r = xs := by simpa using k
        subst k
        obtain ⟨g1, a1, a2, a3⟩ := ih _ _ _ _ hA hx
        obtain ⟨g2, b1, b2, b3⟩ := flat_fields ih fs _ _ _ hM hr
        refine ⟨appG A M g1 g2, ?_, wfL_app _ _ _ _ a2 b2, ?_⟩
        · rw [envT_app, List.length_append, List.take_add, List.drop_drop]
          rw [hd, take_len (by rw [← a1.len, envT_len])] at a1
          exact a1.append b1
        · rw [bkL_app]
          simp only [List.map_cons, Rows.uptoBulkAll]
          omega
theorem flat_arr {fuel e k : Nat} {F : TypeId → Option (List Lf)} {cs : List Value}
    (ih : ∀ t L cs x, F t = some L → DataW.trod en P w 0 (fun _ => true) true fuel t cs = some x → ∃ g : prodL L, RdL w (envT L g) cs ∧ wfL L g ∧ bkL L g ≤ Rows.uptoBulk x.1) :
    ∀ (n i0 o : Nat) (L : List Lf) (ys : List (DataW H × List MemPlace)), flatFs F o ((List.range' i0 n).map fun i => (i * k, e)) = some L → ys.length = n → (∀ j, j < n → DataW.trod en P w 0 (fun _ => true) true fuel e ((cs.drop ((i0 + j) * k)).take k) = ys[j]?) →
      ∃ g : prodL L, RdL w (envT L g) ((cs.drop o).take L.length) ∧ wfL L g ∧ bkL L g ≤ Rows.uptoBulkAll (ys.map (·.1))
  | 0, _, o, L, ys, h, _, _ => by
    simp [flatFs] at h
    subst h
    exact ⟨(), by simp [envT, RdL], trivial, Nat.zero_le _⟩
  | n + 1, i0, o, L, ys, h, hl, hy => by
    simp only [List.range'_succ, List.map_cons, flatFs] at h
    split at h
    case h_2 => cases h
    rename_i A hd hA
    have hd := of_decide_eq_true hd
    split at h
    case h_2 => cases h
    rename_i M hM
    simp only [Option.some.injEq] at h
    subst h
    cases ys with
    | nil => simp at hl
    | cons x r =>
      have hx := hy 0 (Nat.zero_lt_succ n)
      simp only [Nat.add_zero, List.getElem?_cons_zero] at hx
      obtain ⟨g1, a1, a2, a3⟩ := ih _ _ _ _ hA hx
      obtain ⟨g2, b1, b2, b3⟩ := flat_arr ih n (i0 + 1) (o + A.length) M r hM (by simpa using hl) fun j hj => by
        have := hy (j + 1) (by omega)
        rw [List.getElem?_cons_succ] at this
        rw [← this, show i0 + (j + 1) = i0 + 1 + j by omega]
      refine ⟨appG A M g1 g2, ?_, wfL_app _ _ _ _ a2 b2, ?_⟩
      · rw [envT_app, List.length_append, List.take_add, List.drop_drop]
        rw [hd, take_len (by rw [← a1.len, envT_len])] at a1
        exact a1.append b1
      · rw [bkL_app]
        simp only [List.map_cons, Rows.uptoBulkAll]
        omega
theorem sum_bulk {e : El} : ∀ (l : List (ty e)) (ds : List (DataW H)), l.length = ds.length → (∀ (i : Nat) (x : ty e) (d : DataW H), l[i]? = some x → ds[i]? = some d → bk e x ≤ Rows.uptoBulk d) → (l.map (bk e)).sum ≤ Rows.uptoBulkAll ds
  | [], _, _, _ => by simp
  | x :: l, [], h, _ => by simp at h
  | x :: l, d :: ds, h, k => by
    have h1 := k 0 x d rfl rfl
    have h2 := sum_bulk l ds (by simpa using h) fun i y d hy hd => k (i + 1) y d (by simpa using hy) (by simpa using hd)
    simp only [List.map_cons, List.sum_cons, Rows.uptoBulkAll]
    omega
theorem bulk_app : ∀ (l r : List (DataW H)), Rows.uptoBulkAll (l ++ r) = Rows.uptoBulkAll l + Rows.uptoBulkAll r
  | [], r => by simp [Rows.uptoBulkAll]
  | x :: l, r => by simp only [List.cons_append, Rows.uptoBulkAll, bulk_app l r]; omega
theorem flat_elems {fuel : Nat} {e : TypeId} {te : TI} {k : El} (hD : TDok P D) (he : tyOf D e = some te) (hk : te.el = some k) (hflat : ∃ m, flatL D m e = some (lvs k))
    (ih : ∀ m t L cs x, flatL D m t = some L → DataW.trod en P w 0 (fun _ => true) true fuel t cs = some x → ∃ g : prodL L, RdL w (envT L g) cs ∧ wfL L g ∧ bkL L g ≤ Rows.uptoBulk x.1)
    {a : Addr} {len cap : Nat} {elems : List (DataW H × List MemPlace)} (h1 : len ≤ cap) (h2 : cap ≤ maxLen)
    (h : (List.range len).mapM (fun i => (w.cells? 0 (a.add (i * P.cellsOf e)) (P.cellsOf e)).bind (DataW.trod en P w 0 (fun _ => true) true fuel e)) = some elems) :
    ∃ l : List (ty k), Rd w (.sl false k l) (.slice (some a) len cap) ∧ (∀ x ∈ l, wfE k x) ∧ (l.map (bk k)).sum ≤ Rows.uptoBulkAll (elems.map (·.1)) := by
  obtain ⟨m, hflat⟩ := hflat
  have hsz : P.cellsOf e = sz k := by rw [cellsOf_ti (hD _ _ he), ((hD _ _ he).el _ hk).1]
  rw [hsz] at h
  obtain ⟨e1, e2⟩ := mapM_get h
  simp only [List.length_range] at e1
  obtain ⟨l, l1, l2⟩ := exists_list (p := fun j (x : ty k) => wfE k x ∧ (∀ d, elems[j]? = some d → bk k x ≤ Rows.uptoBulk d.1) ∧ ∀ q u, (enc k x)[q]? = some u → ∃ v, w.cell? ((a.add (j * sz k)).add q) = some v ∧ Rd w u v) len (fun j hj => by
    have hje : j < elems.length := by omega
    have := e2 j j elems[j] (by simp [hj]) (List.getElem?_eq_getElem hje)
    obtain ⟨cs, c1, c2⟩ := Option.bind_eq_some_iff.1 this
    obtain ⟨g, g1, g2, g3⟩ := ih m e _ cs _ hflat c2
    obtain ⟨d1, d2⟩ := cells_at c1
    refine ⟨mkE k g, wf_mk k g g2, fun d hd => ?_, fun q u hq => ?_⟩
    · rw [List.getElem?_eq_getElem hje] at hd
      injection hd with hd
      subst hd
      rw [bk_mk]; exact g3
    · rw [enc_mk] at hq
      have hq' : q < cs.length := by rw [← g1.len]; exact (List.getElem?_eq_some_iff.1 hq).1
      exact ⟨cs[q], d2 q _ (List.getElem?_eq_getElem hq'), g1.get q u _ hq (List.getElem?_eq_getElem hq')⟩)
  refine ⟨l, ?_, fun x hx => ?_, sum_bulk _ _ (by simp [l1, e1]) fun i x d hx hd => ?_⟩
  · by_cases h0 : len = 0
    · subst h0
      have : l = [] := List.eq_nil_of_length_eq_zero l1
      subst this
      exact .sl0 _ _ _ h2
    have hp := sz_pos k
    -- the first element is there: the address has no spot, its block is of cells
    have hl0 : 0 < l.length := by omega
    have henc0 : 0 < (enc k l[0]).length := by rw [enc_len]; exact hp
    obtain ⟨v0, hv0, _⟩ := (l2 0 l[0] (List.getElem?_eq_getElem hl0)).2.2 0 _ (List.getElem?_eq_getElem henc0)
    obtain ⟨b, off, spot⟩ := a
    have hadd0 : ((Addr.add ⟨b, off, spot⟩ (0 * sz k)).add 0) = ⟨b, off, spot⟩ := by simp [Addr.add]
    rw [hadd0] at hv0
    obtain ⟨blk, E, fr, hb, hs⟩ : ∃ blk E fr, w.heap[b]? = some (.cells blk E fr) ∧ spot = none := by
      unfold World.cell? at hv0
      split at hv0
      · rename_i c E fr hb
        split at hv0
        · cases hv0
        · rename_i hs
          exact ⟨c, E, fr, hb, by simpa using hs⟩
      · cases hv0
    subst hs
    have hadd : ∀ i q, ((Addr.add ⟨b, off, none⟩ (i * sz k)).add q) = ⟨b, off + i * sz k + q, none⟩ := fun i q => by
      unfold Addr.add; split <;> split <;> simp_all
    have hcell : ∀ i x q u, l[i]? = some x → (enc k x)[q]? = some u → ∃ v, blk[off + i * sz k + q]? = some v ∧ Rd w u v := fun i x q u hi hq => by
      obtain ⟨v, v1, v2⟩ := (l2 i x hi).2.2 q u hq
      rw [hadd] at v1
      simp [World.cell?, hb] at v1
      exact ⟨v, v1, v2⟩
    have hlen : off + l.length * sz k ≤ blk.size := by
      have hlast : l.length - 1 < l.length := by omega
      have hq : sz k - 1 < (enc k l[l.length - 1]).length := by rw [enc_len]; omega
      obtain ⟨v, v1, _⟩ := hcell _ _ _ _ (List.getElem?_eq_getElem hlast) (List.getElem?_eq_getElem hq)
      have := (Array.getElem?_eq_some_iff.1 v1).1
      have e : l.length * sz k = (l.length - 1) * sz k + sz k := by
        rw [← Nat.succ_mul]; congr 1; omega
      omega
    have hR : Rd w (.sl false k l) (.slice (some ⟨b, off, none⟩) l.length cap) := by
      refine .sl k l b off (List.replicate off .undef ++ encs k l) cap (by omega) h2 (.mk _ _ blk E fr hb (fun n e => ?_) (by simp [encs_len]; omega) fun j u x hj hx hpu => ?_) ?_
      · have hm : (T.tu [.int .i64 (n : Int)]) ∈ List.replicate off T.undef ++ encs k l := by rw [e]; simp
        rcases List.mem_append.1 hm with hm | hm
        · have := (List.mem_replicate.1 hm).2; cases this
        · have := encs_pure _ hm; simp [T.pure1] at this
      · by_cases hjo : j < off
        · rw [List.getElem?_append_left (by simpa using hjo)] at hj
          simp [List.getElem?_replicate, hjo] at hj
          subst hj
          simp [T.pure1] at hpu
        · rw [List.getElem?_append_right (by simpa using Nat.le_of_not_lt hjo)] at hj
          simp only [List.length_replicate] at hj
          obtain ⟨i, q, y, hJ, _, hy, hu⟩ := encs_split hj
          obtain ⟨v, v1, v2⟩ := hcell i y q u hy hu
          have : off + i * sz k + q = j := by omega
          rw [this, hx] at v1
          injection v1 with v1
          subst v1
          exact v2
      · rw [List.drop_left' (by simp), ← encs_len]
        exact List.take_length
    rw [l1] at hR
    exact hR
  · obtain ⟨i, hi⟩ := List.mem_iff_getElem?.1 hx
    exact (l2 i x hi).1
  · simp only [List.getElem?_map, Option.map_eq_some_iff] at hd
    obtain ⟨d', hd', rfl⟩ := hd
    exact (l2 i x hx).2.1 d' hd'
theorem trod_flat (hD : TDok P D) (hK : KindsOk D) : ∀ (fuel m : Nat) (t : TypeId) (L : List Lf) (cs : List Value) (x : DataW H × List MemPlace), flatL D m t = some L → DataW.trod en P w 0 (fun _ => true) true fuel t cs = some x →
    ∃ g : prodL L, RdL w (envT L g) cs ∧ wfL L g ∧ bkL L g ≤ Rows.uptoBulk x.1
  | 0, _, _, _, _, _, _, h => by simp [DataW.trod] at h
  | fuel + 1, 0, _, _, _, _, h, _ => by simp [flatL] at h
  | fuel + 1, m + 1, t, L, cs, x, hf, h => by
    simp only [flatL] at hf
    split at hf
    case h_2 => cases hf
    rename_i ti hti
    obtain ⟨d, hu, _, hs⟩ := (hD _ _ hti).under
    have hc := cellsOf_ti (hD _ _ hti)
    have h0 := h
    unfold DataW.trod at h
    rw [hu] at h
    split at hf
    case h_1 k hk =>
      rw [hk] at hs
      subst hs
      injection hf with hf
      subst hf
      split at h <;> first | (cases h; done) | (rename_i ed; cases ed; done) | (rename_i ed; cases ed)
      split at h
      · rename_i hh
        obtain ⟨rfl, hw⟩ := hh
        injection h with h
        subst h
        simp only [Lit.wf, Bool.and_eq_true, decide_eq_true_eq] at hw
        exact ⟨(_, ()), ⟨.int _ _, trivial⟩, ⟨hw, trivial⟩, by simp [bkL, Rows.uptoBulk]⟩
      · cases h
    case h_2 hk =>
      rw [hk] at hs
      subst hs
      injection hf with hf
      subst hf
      split at h <;> first | (cases h; done) | (rename_i ed; cases ed; done) | (rename_i ed; cases ed)
      injection h with h
      subst h
      exact ⟨(_, ()), ⟨.bool _, trivial⟩, trivial, by simp [bkL, Rows.uptoBulk]⟩
    case h_3 hk =>
      rw [hk] at hs
      subst hs
      injection hf with hf
      subst hf
      split at h <;> first | (cases h; done) | (rename_i ed; cases ed; done) | (rename_i ed; cases ed)
      split at h
      · injection h with h
        subst h
        exact ⟨(_, ()), ⟨.str _, trivial⟩, trivial, by simp [bkL, Rows.uptoBulk]⟩
      · cases h
    case h_4 e hk =>
      rw [hk] at hs
      obtain ⟨rfl, _⟩ := hs
      split at hf
      case h_2 => cases hf
      rename_i te hte
      split at hf
      case h_2 => cases hf
      rename_i k hel
      injection hf with hf
      subst hf
      split at h <;> first | (cases h; done) | (rename_i ed; cases ed; done) | (rename_i ed; cases ed)
      · injection h with h
        subst h
        exact ⟨([], ()), ⟨.sl0 _ _ _ (Nat.zero_le _), trivial⟩, ⟨by simp, trivial⟩, by simp [bkL, Rows.uptoBulk]⟩
      · split at h
        case isFalse => cases h
        rename_i hh
        obtain ⟨_, h1, h2⟩ := hh
        obtain ⟨elems, c1, c2⟩ := Option.bind_eq_some_iff.1 h
        obtain ⟨l, l1, l2, l3⟩ := flat_elems hD hte hel (hK _ _ _ hte hel) (fun m t L cs x => trod_flat hD hK fuel m t L cs x) h1 h2 c1
        refine ⟨(l, ()), ⟨l1, trivial⟩, ⟨l2, trivial⟩, ?_⟩
        obtain ⟨rest, _, rfl⟩ := Option.map_eq_some_iff.1 c2
        simp only [bkL, Rows.uptoBulk]
        omega
    case h_5 fs hk =>
      rw [hk] at hs
      obtain ⟨fields, rfl, rfl, _⟩ := hs
      split at hf
      case h_2 => cases hf
      rename_i L' hL
      split at hf
      case h_2 => cases hf
      rename_i hd
      have hd := of_decide_eq_true hd
      injection hf with hf
      subst hf
      split at h <;> first | (cases h; done) | (simp at h; done) | (exfalso; simp_all; done) | (rename_i ed; cases ed; done) | (rename_i ed; cases ed)
      split at h
      case isFalse => cases h
      rename_i hlen
      obtain ⟨xs, c1, rfl⟩ := Option.map_eq_some_iff.1 h
      obtain ⟨g, a1, a2, a3⟩ := flat_fields (fun t L cs x => trod_flat hD hK fuel m t L cs x) fields.toList 0 _ xs hL c1
      refine ⟨g, ?_, a2, ?_⟩
      · rw [List.drop_zero, List.take_of_length_le (by omega)] at a1
        exact a1
      · simp only [Rows.uptoBulk]
        omega
    case h_6 m' e hk =>
      rw [hk] at hs
      simp only [srtOk] at hs
      subst hs
      clear h
      split at hf
      case h_2 => cases hf
      rename_i te hte
      split at hf
      case h_2 => cases hf
      rename_i L' hL
      split at hf
      case h_2 => cases hf
      rename_i hd
      have hd := of_decide_eq_true hd
      injection hf with hf
      subst hf
      obtain ⟨xs, fu, e1, rfl, hlen, hn, hel⟩ := DataW.trod_array hu h0
      obtain rfl : fuel = fu := by omega
      have hce := cellsOf_ti (hD _ _ hte)
      obtain ⟨g, a1, a2, a3⟩ := flat_arr (fun t L cs x => trod_flat hD hK fuel m t L cs x) m' 0 0 _ xs hL hn fun j hj => by
        have := hel j hj
        rw [hce] at this
        rw [Nat.zero_add]
        exact this
      refine ⟨g, ?_, a2, ?_⟩
      · rw [List.drop_zero, List.take_of_length_le (by omega)] at a1
        exact a1
      · simp only [Rows.uptoBulk]
        omega
    case h_7 => cases hf
end
end Go.Proofs.YtoclmkbjgmgekaaDoor

/-
  The machine over typed values, 23: from what a function comes to, to the row of a law.
-/
namespace Go.Proofs.YtoclmkbjgmgekaaDoor
set_option linter.unusedVariables false
set_option linter.unusedSimpArgs false
set_option linter.unusedSectionVars false
open Go.RowKit Go.ChangeShapes
variable {P : Program}

def parL (D : TD) : List TypeId → Option (List Lf)
  | [] => some []
  | t :: r => match flatL D 8 t, parL D r with
    | some L, some M => some (L ++ M)
    | _, _ => none
def shOf (D : TD) (t : TypeId) : Sh := match tyOf D t with
  | some ti => match ti.agg with
    | true => .ag (List.replicate ti.size .leaf)
    | false => .leaf
  | none => .any
def shTs (D : TD) : List TypeId → List Sh
  | [] => []
  | t :: r => shOf D t :: shTs D r
theorem bld_leaves : ∀ (us rest : List T), bldL (List.replicate us.length .leaf) (us ++ rest) = (us, rest)
  | [], rest => by simp [bldL]
  | u :: us, rest => by simp [List.replicate_succ, bldL, bld, bld_leaves us rest]
section
variable {P : Program} {D : TD} {w : World} {H : Type} {en : TypeId × Value → H}
theorem flat_one (hD : TDok P D) {t : TypeId} {L : List Lf} {m base : Nat} {v : Value} {d : DataW H} {ps : List MemPlace} {g : prodL L} (hf : flatL D m t = some L) (hok : Value.okWide P w .any base t v) (hr : RdL w (envT L g) v.cells.toList) :
    ∀ rest, (bld (shOf D t) (envT L g ++ rest)).2 = rest ∧ R (g0 P w) (bld (shOf D t) (envT L g ++ rest)).1 v := by
  intro rest
  cases m with
  | zero => simp [flatL] at hf
  | succ m =>
  simp only [flatL] at hf
  split at hf
  case h_2 => cases hf
  rename_i ti hti
  obtain ⟨dd, hu, ha, hs⟩ := (hD _ _ hti).under
  unfold shOf
  rw [hti]
  unfold Value.okWide at hok
  rw [hu] at hok
  have one : ∀ {a : Lf}, L = [a] → v.cells = #[v] → aggDesc dd = false → (bld (match ti.agg with | true => Sh.ag (List.replicate ti.size Sh.leaf) | false => Sh.leaf) (envT L g ++ rest)).2 = rest ∧ R (g0 P w) (bld (match ti.agg with | true => Sh.ag (List.replicate ti.size Sh.leaf) | false => Sh.leaf) (envT L g ++ rest)).1 v := by
    intro a hL hv hag
    subst hL
    rw [← ha, hag]
    rw [hv] at hr
    exact ⟨rfl, hr.1.R.1⟩
  split at hf
  case h_1 k hk =>
    rw [hk] at hs; subst hs
    injection hf with hf
    refine one hf.symm ?_ rfl
    cases v <;> first | rfl | (simp [Cell.okWide, Cell.ok, hu] at hok)
  case h_2 hk =>
    rw [hk] at hs; subst hs
    injection hf with hf
    refine one hf.symm ?_ rfl
    cases v <;> first | rfl | (simp [Cell.okWide, Cell.ok, hu] at hok)
  case h_3 hk =>
    rw [hk] at hs; subst hs
    injection hf with hf
    refine one hf.symm ?_ rfl
    cases v <;> first | rfl | (simp [Cell.okWide, Cell.ok, hu] at hok)
  case h_4 e hk =>
    rw [hk] at hs
    obtain ⟨rfl, _⟩ := hs
    split at hf
    case h_2 => cases hf
    split at hf
    case h_2 => cases hf
    injection hf with hf
    refine one hf.symm ?_ rfl
    cases v <;> first | rfl | (simp [Cell.okWide, Cell.ok, hu] at hok)
  case h_5 fs hk =>
    rw [hk] at hs
    obtain ⟨fields, rfl, rfl, _⟩ := hs
    split at hf
    case h_2 => cases hf
    split at hf
    case h_2 => cases hf
    rename_i hd
    have hd := of_decide_eq_true hd
    injection hf with hf
    subst hf
    obtain ⟨cs, rfl, _, _⟩ := hok
    dsimp only
    rw [← ha]
    have hlen := envT_len _ g
    have hb := bld_leaves (envT _ g) rest
    rw [hlen, hd] at hb
    simp only [aggDesc, bld, hb, true_and]
    have hr : RdL w (envT _ g) cs.toList := hr
    refine .ag _ _ (by simpa using hr.len) (fun i c x hc hx => (hr.get i c x hc (by simpa using hx)).R.1) fun i x hx => ?_
    have hi : i < (envT _ g).length := by rw [hr.len]; simpa using (Array.getElem?_eq_some_iff.1 hx).1
    exact ((hr.get i _ x (List.getElem?_eq_getElem hi) (by simpa using hx)).R (P := P)).2
  case h_6 m' e hk =>
    rw [hk] at hs
    simp only [srtOk] at hs
    subst hs
    split at hf
    case h_2 => cases hf
    split at hf
    case h_2 => cases hf
    split at hf
    case h_2 => cases hf
    rename_i hd
    have hd := of_decide_eq_true hd
    injection hf with hf
    subst hf
    obtain ⟨cs, rfl, _, _⟩ := hok
    rw [← ha]
    have hlen := envT_len _ g
    have hb := bld_leaves (envT _ g) rest
    rw [hlen, hd] at hb
    simp only [aggDesc, bld, hb, true_and]
    have hr : RdL w (envT _ g) cs.toList := hr
    refine .ag _ _ (by simpa using hr.len) (fun i c x hc hx => (hr.get i c x hc (by simpa using hx)).R.1) fun i x hx => ?_
    have hi : i < (envT _ g).length := by rw [hr.len]; simpa using (Array.getElem?_eq_some_iff.1 hx).1
    exact ((hr.get i _ x (List.getElem?_eq_getElem hi) (by simpa using hx)).R (P := P)).2
  case h_7 => cases hf
theorem flat_args (hD : TDok P D) (hK : KindsOk D) {base : Nat} : ∀ (ts : List TypeId) (L : List Lf) (args : List Value) (ds : List (DataW H)) (ps : List MemPlace), parL D ts = some L → DataW.TrodAll en P w 0 (fun _ => true) true ts args ds ps →
    (∀ (j : Nat) t v, ts[j]? = some t → args[j]? = some v → Value.okWide P w .any base t v) →
    ∃ g : prodL L, (∀ rest, (bldL (shTs D ts) (envT L g ++ rest)).1.length = args.length ∧ ∀ (i : Nat) (u : T) (x : Value), (bldL (shTs D ts) (envT L g ++ rest)).1[i]? = some u → args[i]? = some x → R (g0 P w) u x) ∧ wfL L g ∧ bkL L g ≤ Rows.uptoBulkAll ds
  | [], L, args, ds, ps, hf, ht, _ => by
    obtain ⟨rfl, rfl, rfl⟩ := trodAll_nil ht
    simp [parL] at hf
    subst hf
    exact ⟨(), fun rest => ⟨by simp [shTs, bldL], by simp⟩, trivial, Nat.zero_le _⟩
  | t :: ts, L, args, ds, ps, hf, ht, hok => by
    obtain ⟨v, vs, d, ds', p, q, rfl, rfl, rfl, h1, h2⟩ := trodAll_cons ht
    simp only [parL] at hf
    split at hf
    case h_2 => cases hf
    rename_i A B hA hB
    injection hf with hf
    subst hf
    obtain ⟨fuel, h1⟩ := h1
    obtain ⟨g1, a1, a2, a3⟩ := trod_flat hD hK fuel 8 t A _ _ hA h1
    obtain ⟨g2, b1, b2, b3⟩ := flat_args hD hK ts B vs ds' q hB h2 fun j t v h h' => hok (j + 1) t v (by simpa using h) (by simpa using h')
    have hone := flat_one (ps := p) (d := d) hD hA (hok 0 t v rfl rfl) a1
    refine ⟨appG A B g1 g2, fun rest => ?_, wfL_app _ _ _ _ a2 b2, ?_⟩
    · rw [envT_app, List.append_assoc]
      simp only [shTs, bldL]
      obtain ⟨c1, c2⟩ := hone (envT B g2 ++ rest)
      rw [c1]
      obtain ⟨e1, e2⟩ := b1 rest
      refine ⟨by simp [e1], fun i u x hu hx => ?_⟩
      cases i with
      | zero => simp at hu hx; subst hu; subst hx; exact c2
      | succ i => simp at hu hx; exact e2 i u x hu hx
    · rw [bkL_app]
      have a3 : bkL A g1 ≤ Rows.uptoBulk d := a3
      simp only [Rows.uptoBulkAll]
      omega

theorem trodAll_carry {w' : World} {sp : Nat → Bool} {hd : Bool} : ∀ {ts : List TypeId} {vs : List Value} {ds : List (DataW H)} {ps : List MemPlace}, DataW.TrodAll en P w 0 sp hd ts vs ds ps → (∀ p ∈ ps, w.sameAt w' p) → DataW.TrodAll en P w' 0 sp hd ts vs ds ps
  | [], _, _, _, h, _ => by
    obtain ⟨rfl, rfl, rfl⟩ := trodAll_nil h
    rfl
  | t :: ts, _, _, _, h, hs => by
    obtain ⟨v, vs, d, ds', p, q, rfl, rfl, rfl, ⟨n, h1⟩, h2⟩ := trodAll_cons h
    exact ⟨p, q, ⟨n, DataW.trod_carry n _ _ _ h1 fun x hx => hs x (List.mem_append_left _ hx)⟩, trodAll_carry h2 fun x hx => hs x (List.mem_append_right _ hx), rfl⟩
/-- What a law's call does: of what was there nothing turns. -/
theorem step_kept {g' : G P} {st' : St} {w' : World} {b0 : B0} (h : Step b0 (g0 P w) [] w g' st' w') : (∀ b, b < w.heap.size → w'.heap[b]? = w.heap[b]?) := fun b hb => h.block b hb fun ⟨k, o, ho, _⟩ => by simp at ho
theorem kept_of {w' : World} (h1 : w'.os = w.os) (h2 : w'.output = w.output) (h : ∀ b, b < w.heap.size → w'.heap[b]? = w.heap[b]?) (may : MemPlace → Prop) : w.keptBut w' may := by
  refine ⟨h1, h2, fun i hi => ?_⟩
  rw [h i hi]
  split
  · rename_i e1 e2
    rw [e1] at e2
    simp only [Option.some.injEq, Obj.cells.injEq] at e2
    obtain ⟨rfl, rfl, rfl⟩ := e2
    exact ⟨rfl, rfl, rfl, fun _ _ => rfl⟩
  · rename_i e1 e2
    rw [e1] at e2
    simp only [Option.some.injEq, Obj.map.injEq] at e2
    exact .inr ⟨e2.1.symm, e2.2.symm⟩
  · rfl
theorem law_contract (hD : TDok P D) (hK : KindsOk D) (kids : Kids P (· < P.types.size)) (full : ∀ t e, t < P.types.size → P.underlying t = some (.slice e) → 0 < P.cellsOf e) {f : FuncId} {fn : Func} {s : ChangeSpec} {tb : TypeId}
    (hvars : s.vars = []) (hfn : ∀ ds : List (DataW H), ds.length = fn.params.size → s.fn H ds = { results := [.lit (.bool true)], args := ds }) (hres : fn.resultTypes = #[tb]) (htb : P.underlying tb = some .bool) (hts : ∀ t ∈ fn.params.toList, t < P.types.size)
    {L : List Lf} {S : List Sh} (hL : parL D fn.params.toList = some L) (hS : shTs D fn.params.toList = S)
    {base : Nat} {args : Array Value} {ds gs : List (DataW H)} {before : List MemPlace} (hF : ∀ g : prodL L, wfL L g → bkL L g ≤ Rows.uptoBulkAll (ds ++ gs) → FCalls P f (argsT S L g) [] (fun r _ => r = .bool true) fun _ _ => False)
    (hval : ∀ (j : Nat) t v, fn.params[j]? = some t → args[j]? = some v → Value.okWide P w .any base t v) (hW : DataW.Whole en P fn.params.toList s.vars false w args.toList ds gs before) (hy : ytab f = none := by rfl) (hlaid : LaidG (RdB w) := by trivial) :
    Calls P f args w fun e w' => ∃ v, e = .returned v ∧ s.post en P fn false true false false w args v w' := by
  have hW' := hW
  obtain ⟨p, q, hA, hV, hpq, hfz, hnd⟩ := hW
  rw [hvars] at hV
  obtain ⟨rfl, rfl⟩ := trodVars_none hV
  rw [List.append_nil] at hpq
  subst hpq
  simp only [List.append_nil] at hF
  obtain ⟨g, r1, r2, r3⟩ := flat_args (base := base) hD hK _ _ _ _ _ hL hA fun j t v h h' => hval j t v (by simpa using h) (by simpa using h')
  have hc := hF g r2 r3 (g0 P w) w (good0 w hlaid)
  unfold Atc at hc
  rw [hy] at hc
  replace hc := hc.2 args
  have hargs : RL (g0 P w) (argsT S L g) args := by
    obtain ⟨a1, a2⟩ := r1 []
    rw [List.append_nil, hS] at a1 a2
    exact ⟨by simpa [argsT] using a1, fun i u x hu hx => a2 i u x hu (by simpa using hx)⟩
  have hlen : ds.length = fn.params.size := by
    have : ∀ {ts : List TypeId} {vs : List Value} {ds : List (DataW H)} {ps : List MemPlace}, DataW.TrodAll en P w 0 (fun _ => true) true ts vs ds ps → ds.length = ts.length := by
      intro ts
      induction ts with
      | nil => intro vs ds ps h; obtain ⟨_, rfl, _⟩ := trodAll_nil h; rfl
      | cons t ts ih =>
        intro vs ds ps h
        obtain ⟨v, vs, d, ds', p, q, rfl, rfl, rfl, _, h2⟩ := trodAll_cons h
        simp [ih h2]
    simpa using this hA
  refine (hc hargs).mono fun e w' ⟨g', st', _, h2, h3⟩ => ?_
  cases e with
  | returned x =>
    obtain ⟨r, rfl, hx⟩ := h3
    cases hx
    have hsame := step_kept h2
    have hsat : ∀ p ∈ before, w.sameAt w' p := fun x hx => by
      have hlt := hW'.lt x hx
      cases x with
      | cell b off => simp only [World.sameAt, World.cell?]; rw [hsame b hlt]
      | map b => exact hsame b hlt
    refine ⟨_, rfl, ds, [], before, [], before, [], hW', ?_, ?_, ?_, kept_of h2.os h2.output hsame _ |> World.keptBut_mono (fun x hx => hx), fun h => by cases h⟩
    · rw [List.append_nil, hfn ds hlen, hres]
      exact trodAll_mk1 (shut_bool htb _)
    · rw [List.append_nil, hfn ds hlen]
      have := DataW.TrodAll.respare (spare' := fun b => decide (b < w.heap.size)) kids (fun t e ht => full t e ht) hts hA fun x hx => by simpa using hW'.lt x hx
      exact trodAll_carry this hsat
    · rw [hvars, List.append_nil, hfn ds hlen]; rfl
  | panicked ch => obtain ⟨_, _, _, h, _⟩ := h3; exact h.elim
  | outgrown => exact h3.elim
end
end Go.Proofs.YtoclmkbjgmgekaaDoor
