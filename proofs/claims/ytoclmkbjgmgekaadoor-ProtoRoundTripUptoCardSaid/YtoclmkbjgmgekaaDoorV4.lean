import Derived.Test.YtoclmkbjgmgekaaDoorRows
import Derived.DataReads
import Derived.JoinedCond
import Derived.OpenShut
import Derived.ReadAgain
import Derived.RowKit3
import Derived.RowKit
import Derived.Lib.ItoaNum
import Derived.Lib.AtoiAll
import Derived.Test.YtoclmkbjgmgekaaDoorV3
namespace Go.Proofs.YtoclmkbjgmgekaaDoor
set_option linter.unusedVariables false
set_option linter.unusedSimpArgs false
set_option linter.unusedSectionVars false
open Go.RowKit
variable {P : Program}
def leafEq : List Nat → List Value → List Value → Option Bool
  | [], [], [] => some true
  | 0 :: ks, .int k a :: r, .int k' b :: q => if k = k' then (leafEq ks r q).map (decide (a = b) && ·) else none
  | 1 :: ks, .bool a :: r, .bool b :: q => (leafEq ks r q).map (decide (a = b) && ·)
  | 2 :: ks, .string a :: r, .string b :: q => (leafEq ks r q).map (decide (a = b) && ·)
  | _, _, _ => none
theorem bytes_beq (x y : ByteArray) : (x == y) = decide (x = y) := by
  obtain ⟨x⟩ := x
  obtain ⟨y⟩ := y
  rw [Bool.eq_iff_iff, decide_eq_true_iff, ByteArray.mk.injEq]
  exact (beq_iff_eq (α := Array UInt8) (a := x) (b := y))
section
variable {P : Program} {t : TypeId}
theorem leafEq_of {g : G P} : ∀ {ks : List Nat} {xs ys : List T} {vs us : List Value} {b : Bool}, eqCells ks xs ys = some b → xs.length = vs.length → ys.length = us.length → (∀ (i : Nat) (c : T) (x : Value), xs[i]? = some c → vs[i]? = some x → R g c x) → (∀ (i : Nat) (c : T) (x : Value), ys[i]? = some c → us[i]? = some x → R g c x) → leafEq ks vs us = some b := by
  intro ks
  induction ks with
  | nil =>
    intro xs ys vs us b h h1 h2 _ _
    cases xs <;> cases ys <;> simp [eqCells] at h
    cases vs <;> cases us <;> simp at h1 h2
    subst h
    rfl
  | cons k ks ih =>
    intro xs ys vs us b h h1 h2 h3 h4
    cases xs with
    | nil => unfold eqCells at h; (repeat' split at h) <;> simp_all
    | cons x xs =>
      cases ys with
      | nil => unfold eqCells at h; (repeat' split at h) <;> simp_all
      | cons y ys =>
        cases vs with
        | nil => simp at h1
        | cons v vs =>
          cases us with
          | nil => simp at h2
          | cons u us =>
            have r1 := h3 0 x v rfl rfl
            have r2 := h4 0 y u rfl rfl
            have hrec := fun b h => ih (xs := xs) (ys := ys) (vs := vs) (us := us) (b := b) h (by simpa using h1) (by simpa using h2) (fun i c x hc hx => h3 (i + 1) c x (by simpa using hc) (by simpa using hx)) (fun i c x hc hx => h4 (i + 1) c x (by simpa using hc) (by simpa using hx))
            unfold eqCells at h
            split at h
            · rename_i e _ _; cases e
            · rename_i ks' k1 a r k2 b' q e1 e2 e3
              cases e1; cases e2; cases e3
              cases r1; cases r2
              split at h
              · rename_i hk
                obtain ⟨c, hc, hb⟩ := Option.map_eq_some_iff.1 h
                simp only [leafEq, if_pos (of_decide_eq_true hk), hrec c hc, Option.map_some, hb]
              · cases h
            · rename_i ks' a r b' q e1 e2 e3
              cases e1; cases e2; cases e3
              cases r1; cases r2
              obtain ⟨c, hc, hb⟩ := Option.map_eq_some_iff.1 h
              simp only [leafEq, hrec c hc, Option.map_some, hb]
            · rename_i ks' a r b' q e1 e2 e3
              cases e1; cases e2; cases e3
              cases r1; cases r2
              obtain ⟨c, hc, hb⟩ := Option.map_eq_some_iff.1 h
              simp only [leafEq, hrec c hc, Option.map_some, hb]
            · cases h
theorem leaf0 {ks : List Nat} {vs us : List Value} {b : Bool} (h : leafEq (0 :: ks) vs us = some b) : ∃ k x r y q c, vs = .int k x :: r ∧ us = .int k y :: q ∧ leafEq ks r q = some c ∧ b = ((x == y) && c) := by
  cases vs with
  | nil => simp [leafEq] at h
  | cons v r =>
    cases us with
    | nil => cases v <;> simp [leafEq] at h
    | cons u q =>
      cases v <;> cases u <;> first | (simp [leafEq] at h; done) | skip
      simp only [leafEq] at h
      split at h
      · rename_i hk
        subst hk
        obtain ⟨c, hc, hb⟩ := Option.map_eq_some_iff.1 h
        exact ⟨_, _, _, _, _, c, rfl, rfl, hc, hb.symm⟩
      · cases h
theorem leafN {vs us : List Value} {b : Bool} (h : leafEq [] vs us = some b) : vs = [] ∧ us = [] ∧ b = true := by
  cases vs <;> cases us <;> simp [leafEq] at h
  exact ⟨rfl, rfl, h⟩
theorem eqV_arr {t e : TypeId} {n d : Nat} {i : TypeInfo} {xs ys : List Value} (hu : P.underlying t = some (.array n e)) (hi : P.info? e = some i) : eqV P (d + 1) t xs ys = eqIs (eqV P d e) i.size xs ys (List.range' 0 n) := by
  simp only [eqV, hu, hi]
theorem eqIs_leaf {e : TypeId} {q : IntKind} {d : Nat} (he : P.underlying e = some (.int q)) : ∀ (n j : Nat) (pa pb vs us : List Value) (b : Bool), pa.length = j → pb.length = j → leafEq (List.replicate n 0) vs us = some b → eqIs (eqV P (d + 1) e) 1 (pa ++ vs) (pb ++ us) (List.range' j n) = some b
  | 0, j, pa, pb, vs, us, b, _, _, h => by
    obtain ⟨_, _, rfl⟩ := leafN h
    rfl
  | n + 1, j, pa, pb, vs, us, b, ha, hb, h => by
    rw [List.replicate_succ] at h
    obtain ⟨k, x, r, y, s, c, rfl, rfl, h1, rfl⟩ := leaf0 h
    rw [List.range'_succ, eqIs]
    have e1 : ((pa ++ Value.int k x :: r).drop (j * 1)).take 1 = [.int k x] := by rw [Nat.mul_one, ← ha, List.drop_left]; rfl
    have e2 : ((pb ++ Value.int k y :: s).drop (j * 1)).take 1 = [.int k y] := by rw [Nat.mul_one, ← hb, List.drop_left]; rfl
    have e3 := eqIs_leaf (d := d) he n (j + 1) (pa ++ [.int k x]) (pb ++ [.int k y]) r s c (by simp [ha]) (by simp [hb]) h1
    rw [List.append_assoc, List.append_assoc] at e3
    simp only [List.cons_append, List.nil_append] at e3
    rw [e1, e2, e3]
    simp [eqV, he]
theorem TIok.one {d : TypeDesc} {i : TypeInfo} {ti : TI} {z : T} (hu : P.underlying t = some d) (hi : P.info? t = some i) (ha : ti.agg = false) (ha' : aggDesc d = false) (hs : srtOk P d ti.srt) (h1 : i.size = ti.size) (h2 : i.bytes = ti.bytes) (hz : ti.zero = some [z])
    {x : Value} (h3 : i.zero = some x) (h4 : cellsOf (tval x) = some ([z].map unfp)) (hW : cellW [z] t 1 = true) (h5 : ti.size = 1) (h6 : ti.agg = false → x.oneCell' = true) (hel : ∀ e, ti.el = some e → sz e = ti.size ∧ 0 < ti.bytes) (helt : ∀ e, ti.el = some e → elTy e t = true) (he : ti.eqs = none) : TIok P t ti :=
  ⟨⟨d, hu, by rw [ha, ha'], hs⟩, ⟨i, hi, h1, h2, fun z' hz' => by rw [hz] at hz'; injection hz' with hz'; subst hz'; exact ⟨⟨x, h3, h4, hW⟩, by rw [h5]; rfl⟩⟩, hel, helt, fun ha _ i' x' e1 e2 => (by rw [hi] at e1; injection e1 with e1; subst e1; rw [h3] at e2; injection e2 with e2; subst e2; exact h6 ha), fun ks hks => by rw [he] at hks; cases hks⟩
theorem TIok.none {d : TypeDesc} {i : TypeInfo} {ti : TI} (hu : P.underlying t = some d) (hi : P.info? t = some i) (ha : aggDesc d = ti.agg) (hs : srtOk P d ti.srt) (h1 : i.size = ti.size) (h2 : i.bytes = ti.bytes) (hz : ti.zero = Option.none)
    (hel : ∀ e, ti.el = some e → sz e = ti.size ∧ 0 < ti.bytes) (helt : ∀ e, ti.el = some e → elTy e t = true) (he : ti.eqs = Option.none) : TIok P t ti :=
  ⟨⟨d, hu, ha, hs⟩, ⟨i, hi, h1, h2, fun z' hz' => by rw [hz] at hz'; cases hz'⟩, hel, helt, fun _ hz' => (by rw [hz] at hz'; cases hz'), fun ks hks => by rw [he] at hks; cases hks⟩
theorem TIok.agg {d : TypeDesc} {i : TypeInfo} {ti : TI} {z : List T} (hu : P.underlying t = some d) (hi : P.info? t = some i) (ha : aggDesc d = ti.agg) (hs : srtOk P d ti.srt) (h1 : i.size = ti.size) (h2 : i.bytes = ti.bytes) (hz : ti.zero = some z)
    {x : Value} (h3 : i.zero = some x) (h4 : cellsOf (tval x) = some (z.map unfp)) (hW : cellW z t z.length = true) (h5 : z.length = ti.size) (h6 : ti.agg = false → x.oneCell' = true) (hel : ∀ e, ti.el = some e → sz e = ti.size ∧ 0 < ti.bytes) (helt : ∀ e, ti.el = some e → elTy e t = true)
    (he : ∀ ks, ti.eqs = some ks → P.eqGuardType P.depth t = false ∧ aggDesc d = true ∧ ∀ vs us b, leafEq ks vs us = some b → eqV P 4 t vs us = some b) : TIok P t ti := by
  refine ⟨⟨d, hu, ha, hs⟩, ⟨i, hi, h1, h2, fun z' hz' => by rw [hz] at hz'; injection hz' with hz'; subst hz'; exact ⟨⟨x, h3, h4, hW⟩, h5⟩⟩, hel, helt, fun ha _ i' x' e1 e2 => (by rw [hi] at e1; injection e1 with e1; subst e1; rw [h3] at e2; injection e2 with e2; subst e2; exact h6 ha), fun ks hks xs ys vs us g b hl hq hx hy => ?_⟩
  obtain ⟨k1, k2, k3⟩ := he ks hks
  refine ⟨?_, k1⟩
  cases hx with
  | ag _ _ a1 a2 _ =>
    cases hy with
    | ag _ _ b1 b2 _ =>
      have hv := k3 vs.toList us.toList b (leafEq_of hq (by simpa using a1) (by simpa using b1) (fun i c x hc hx => a2 i c x hc (by simpa using hx)) fun i c x hc hx => b2 i c x hc (by simpa using hx))
      exact eqV_sound 4 t _ _ b 10000 hv (by omega) _ _ (by unfold mkV; simp [hu, k2]) (by unfold mkV; simp [hu, k2])
end
end Go.Proofs.YtoclmkbjgmgekaaDoor
namespace Go.Proofs.YtoclmkbjgmgekaaDoor
set_option linter.unusedVariables false
set_option linter.unusedSimpArgs false
set_option linter.unusedSectionVars false
open Go.RowKit
variable {P : Program}
abbrev codeOf (fn : Func) : Code :=
  match fn.body with
  | some c => c
  | none => .skip
def argsT (shs : List Sh) (ls : List Lf) (g : prodL ls) : List T := (bldL shs (envT ls g)).1
def settle0 (K : Kn) : Kn := fun r s => K (rnV s true (pos0 []) r) []
structure Sp where
  shs : List Sh
  ls : List Lf
  pre : prodL ls → Prop
  res : prodL ls → T
  ob : prodL ls → Option Ob
def obL : Option Ob → St
  | some o => [some o]
  | none => []
def Sp.run (c : Sp) (vs : List T) (s : St) (K : Kn) : Prop :=
  match collectL c.shs vs with
  | some l => typed c.ls l fun g => c.pre g ∧ K (rnV (obL (c.ob g)) false (bkPos s [] s.length (fxOf 0 (obL (c.ob g)))) (c.res g)) (merge s [] (fxOf 0 (obL (c.ob g))) (obL (c.ob g)))
  | none => False
def Sp.lend (c : Sp) (vs : List T) (s : St) (K : Kn) : Prop :=
  match collectL c.shs (rnL s true (pos0 []) vs) with
  | some l => typed c.ls l fun g => c.pre g ∧ K (c.res g) s
  | none => False
structure Sp.Ok (P : Program) (f : FuncId) (b : Bool) (c : Sp) : Prop where
  calls : ∀ (g : prodL c.ls) (K X : Kn), c.pre g → K (c.res g) (obL (c.ob g)) → FCalls P f (argsT c.shs c.ls g) [] K X
  args : ∀ (g : prodL c.ls) (s : St) (pos : Nat → Option (Nat × Nat)), rnL s false pos (argsT c.shs c.ls g) = argsT c.shs c.ls g
  objs : ∀ (g : prodL c.ls), objsL (argsT c.shs c.ls g) = []
  flat : b = true → ∀ (g : prodL c.ls), flatT (c.res g) = true ∧ c.ob g = none
structure Raw where
  shs : List Sh
  obs : List ObSh
  ls : List Lf
  c0 : Nat
  F : prodL ls → Kn → Kn → Prop
def storeT (shs : List Sh) (obs : List ObSh) (ls : List Lf) (g : prodL ls) : St := (bldS obs (bldL shs (envT ls g)).2).1
def Raw.C (r : Raw) (vs : List T) (s : St) (K X : Kn) : Prop :=
  match collectL r.shs vs, collectS r.obs s with
  | some a, some b => typed r.ls (a ++ b) fun g => r.F g K X
  | _, _ => False
abbrev Raw.Ok (P : Program) (f : FuncId) (r : Raw) : Prop := ∀ (g : prodL r.ls) (K X : Kn), r.F g K X → FCalls P f (argsT r.shs r.ls g) (storeT r.shs r.obs r.ls g) K X r.c0
def settleD (m c0 : Nat) (K : Kn) : Kn := fun r s =>
  match nodupB (reach s 64 (upto m (objsV r)) []), decide ((reach s 64 (upto m (objsV r)) []).take m = upto m []), Nat.ble c0 m, fix0 c0 s with
  | true, true, true, true => K (rnV s true (pos0 (reach s 64 (upto m (objsV r)) [])) r) (rnS s true (reach s 64 (upto m (objsV r)) []))
  | _, _, _, _ => False
def settleG (m c0 : Nat) (K : Kn) : Kn := fun r s =>
  match nodupB (reach s 64 (upto m []) []), decide ((reach s 64 (upto m []) []).take m = upto m []), Nat.ble c0 m, fix0 c0 s with
  | true, true, true, true => K (rnV s true (pos0 (reach s 64 (upto m []) [])) r) (rnS s true (reach s 64 (upto m []) []))
  | _, _, _, _ => False
def isRaw : List (FuncId × Raw) → FuncId → Bool
  | [], _ => false
  | (f', _) :: r, f => match decide (f = f') with
    | true => true
    | false => isRaw r f
def gamOf : List (FuncId × Bool × Sp) → Gam
  | [], _, _, _, _, _ => False
  | (f', b, c) :: r, f, vs, s, K, X => match decide (f = f') with
    | true => match b with
      | true => c.lend vs s K
      | false => c.run vs s K
    | false => gamOf r f vs s K X
section
variable {P : Program} {f : FuncId} {c : Sp} {vs : List T} {s : St} {K X : Kn} {b : Bool}
theorem FCalls.noX {s : St} {c0 : Nat} (h : FCalls P f vs s K (fun _ _ => False) c0) : FCalls P f vs s K X c0 := fun g w hg => (h g w hg).mono (by
  rintro e w' ⟨g', st', p1, p2, p3⟩
  refine ⟨g', st', p1, p2, ?_⟩
  cases e with
  | returned x => exact p3
  | panicked ch => obtain ⟨v, u, _, h2, _⟩ := p3; exact h2.elim
  | outgrown => exact p3)
theorem FCalls.settle0 (h : FCalls P f vs [] (settle0 K) X) : FCalls P f vs [] K X := by
  refine fun g w hg => (h g w hg).mono fun e w' ⟨g', st', h1, h2, h3⟩ => ?_
  cases e with
  | returned x =>
    obtain ⟨r, r1, r2⟩ := h3
    obtain ⟨g2, k1, k2, k3, _⟩ := ren_ok h1 (keep := []) List.nodup_nil true
    exact ⟨g2, _, k1, h2.trans (k2 _ (fun k hk => absurd hk (Nat.not_lt_zero _)) fun k hk => absurd hk (Nat.not_lt_zero _)), _, r1, k3 _ _ r2⟩
  | panicked ch => exact ⟨g', st', h1, h2, h3⟩
  | outgrown => exact h3.elim
theorem FCalls.settleD {s : St} {c0 : Nat} (h : FCalls P f vs s (settleD s.length c0 K) X c0) : FCalls P f vs s K X c0 := by
  refine fun g w hg => (h g w hg).mono fun e w' ⟨g', st', h1, h2, h3⟩ => ?_
  cases e with
  | returned x =>
    obtain ⟨r, r1, r2⟩ := h3
    unfold Go.Proofs.YtoclmkbjgmgekaaDoor.settleD at r1
    generalize reach st' 64 (upto s.length (objsV r)) [] = ks at r1
    split at r1
    · rename_i hn ht hle hfx
      have ht := of_decide_eq_true ht
      have hle := Nat.le_of_ble_eq_true hle
      have hat : ∀ k, k < s.length → ks[k]? = some k := fun k hk => by
        have : (ks.take s.length)[k]? = some k := by rw [ht]; exact upto_get _ _ k hk
        rwa [List.getElem?_take_of_lt hk] at this
      obtain ⟨g2, k1, k2, k3, _⟩ := ren_ok h1 (keep := ks) (nodupB_ok hn) true
      exact ⟨g2, _, k1, h2.trans (k2 _ hat fun k hk => ⟨hat k (Nat.lt_of_lt_of_le hk hle), fix0_ok hfx k hk⟩), _, r1, k3 _ _ r2⟩
    · exact r1.elim
  | panicked ch => exact ⟨g', st', h1, h2, h3⟩
  | outgrown => exact h3.elim
theorem FCalls.settleG {s : St} {c0 : Nat} (h : FCalls P f vs s (Go.Proofs.YtoclmkbjgmgekaaDoor.settleG s.length c0 K) X c0) : FCalls P f vs s K X c0 := by
  refine fun g w hg => (h g w hg).mono fun e w' ⟨g', st', h1, h2, h3⟩ => ?_
  cases e with
  | returned x =>
    obtain ⟨r, r1, r2⟩ := h3
    unfold Go.Proofs.YtoclmkbjgmgekaaDoor.settleG at r1
    generalize reach st' 64 (upto s.length []) [] = ks at r1
    split at r1
    · rename_i hn ht hle hfx
      have ht := of_decide_eq_true ht
      have hle := Nat.le_of_ble_eq_true hle
      have hat : ∀ k, k < s.length → ks[k]? = some k := fun k hk => by
        have : (ks.take s.length)[k]? = some k := by rw [ht]; exact upto_get _ _ k hk
        rwa [List.getElem?_take_of_lt hk] at this
      obtain ⟨g2, k1, k2, k3, _⟩ := ren_ok h1 (keep := ks) (nodupB_ok hn) true
      exact ⟨g2, _, k1, h2.trans (k2 _ hat fun k hk => ⟨hat k (Nat.lt_of_lt_of_le hk hle), fix0_ok hfx k hk⟩), _, r1, k3 _ _ r2⟩
    · exact r1.elim
  | panicked ch => exact ⟨g', st', h1, h2, h3⟩
  | outgrown => exact h3.elim
theorem FCalls.settleX {s : St} {c0 : Nat} (h : FCalls P f vs s K (Go.Proofs.YtoclmkbjgmgekaaDoor.settleD s.length c0 X) c0) : FCalls P f vs s K X c0 := by
  refine fun g w hg => (h g w hg).mono fun e w' ⟨g', st', h1, h2, h3⟩ => ?_
  cases e with
  | returned x => exact ⟨g', st', h1, h2, h3⟩
  | panicked ch =>
    obtain ⟨v, r, rfl, r1, r2⟩ := h3
    unfold Go.Proofs.YtoclmkbjgmgekaaDoor.settleD at r1
    generalize reach st' 64 (upto s.length (objsV r)) [] = ks at r1
    split at r1
    · rename_i hn ht hle hfx
      have ht := of_decide_eq_true ht
      have hle := Nat.le_of_ble_eq_true hle
      have hat : ∀ k, k < s.length → ks[k]? = some k := fun k hk => by
        have : (ks.take s.length)[k]? = some k := by rw [ht]; exact upto_get _ _ k hk
        rwa [List.getElem?_take_of_lt hk] at this
      obtain ⟨g2, k1, k2, k3, _⟩ := ren_ok h1 (keep := ks) (nodupB_ok hn) true
      exact ⟨g2, _, k1, h2.trans (k2 _ hat fun k hk => ⟨hat k (Nat.lt_of_lt_of_le hk hle), fix0_ok hfx k hk⟩), v, _, rfl, r1, k3 _ _ r2⟩
    · exact r1.elim
  | outgrown => exact h3.elim
theorem RL.weak {g : G P} {us : List T} {args : Array Value} (h : RL g vs args) (hw : WeakL vs us) : RL g us args :=
  ⟨by rw [hw.1]; exact h.len, fun i u x hu hx => by
    obtain ⟨v, v1, v2⟩ := hw.2 i u hu
    exact v2 _ g x (h.val i v x v1 hx)⟩
theorem Atc.weak {g : G P} {us : List T} {w : World} {Z : Ending → World → Prop} (h : Atc P f g us w Z) (hw : WeakL vs us) : Atc P f g vs w Z :=
  h.re hw.1 (fun i u1 hu => by obtain ⟨v, v1, v2⟩ := hw.2 i u1 hu; exact ⟨v, v1, v2 _ g⟩) fun _ _ h => h
theorem DCalls.weak {us : List T} (h : DCalls P f us s K X) (hw : WeakL vs us) : DCalls P f vs s K X :=
  fun g w hg => (h g w hg).weak hw
theorem typed_some {ls : List Lf} {l : List T} {W : prodL ls → Prop} (h : typed ls l W) : ∃ g, W g ∧ All2 Wk l (envT ls g) ∧ ∀ W' : prodL ls → Prop, W' g → typed ls l W' := by
  induction ls generalizing l with
  | nil =>
    cases l with
    | nil => exact ⟨(), h, .nil, fun W' h => h⟩
    | cons => exact h.elim
  | cons a r ih =>
    cases l with
    | nil => exact h.elim
    | cons v vs =>
      simp only [typed] at h
      split at h
      · rename_i x hx
        obtain ⟨g, g1, g2, g3⟩ := ih h
        exact ⟨(x, g), g1, .cons (Lf.get_ok hx) g2, fun W' h' => by simp only [typed, hx]; exact g3 _ h'⟩
      · exact h.elim
theorem coll_some {shs : List Sh} {ls : List Lf} {vs : List T} {W : prodL ls → Prop} (h : match collectL shs vs with | some l => typed ls l W | none => False) :
    ∃ g, W g ∧ WeakL vs (argsT shs ls g) ∧ ∀ W' : prodL ls → Prop, W' g → (match collectL shs vs with | some l => typed ls l W' | none => False) := by
  cases hl : collectL shs vs with
  | none => rw [hl] at h; exact h.elim
  | some l =>
    rw [hl] at h
    obtain ⟨g, g1, g3, g4⟩ := typed_some h
    have := (bldL_ok [] hl g3).2
    rw [List.append_nil] at this
    exact ⟨g, g1, this, g4⟩
theorem Sp.Ok.run_ok (hc : c.Ok P f b) (h : c.run vs s K) : DCalls P f vs s K X := by
  obtain ⟨g, ⟨g1, g2⟩, g3, _⟩ := coll_some h
  refine DCalls.weak ?_ g3
  refine frameD_sound (c0 := 0) (C := fun vs' s' K' X' => vs' = argsT c.shs c.ls g ∧ s' = [] ∧ K' (c.res g) (obL (c.ob g))) (fun vs' s' K' X' ⟨e1, e2, e3⟩ => by subst e1; subst e2; exact hc.calls g K' X' g1 e3) ?_
  have hk : reach s 64 (objsL (argsT c.shs c.ls g)) [] = [] := by rw [hc.objs]; rfl
  unfold frameD
  simp only [hk]
  exact ⟨hc.args g s _, rfl, g2⟩
theorem Sp.Ok.lend_ok (hc : c.Ok P f true) (h : c.lend vs s K) : DCalls P f vs s K X := by
  unfold Sp.lend at h
  obtain ⟨g, ⟨g1, g2⟩, g3, _⟩ := coll_some h
  obtain ⟨f1, f2⟩ := hc.flat rfl g
  have hD : lendD (fun vs' s' K' X' => WeakL vs' (argsT c.shs c.ls g) ∧ s' = [] ∧ K' (c.res g) []) vs s K := by
    unfold lendD
    refine ⟨g3, rfl, ?_⟩
    show (match flatT (c.res g) with | true => K (c.res g) s | false => False)
    rw [f1]
    exact g2
  exact lendD_sound (fun vs' s' K' X' ⟨e1, e2, e3⟩ => by
    subst e2
    have := hc.calls g K' X' g1 (by rw [f2]; exact e3)
    exact fun g w hg => (this g w hg).weak e1) hD
theorem merge_ob (fx : Nat → Bool) (o : Option Ob) : merge s [] fx (obL o) = s ∨ ∃ o', merge s [] fx (obL o) = s ++ [some o'] := by
  cases o with
  | none => left; simp [obL, merge, putOld, newOnes]
  | some o =>
    right
    have : merge s [] fx (obL (some o)) = s ++ [bkOb s [] s.length fx [some o] 0 (some o)] := by simp [obL, merge, putOld, newOnes]
    rw [this]
    unfold bkOb
    cases o with
    | cells cs => exact ⟨_, rfl⟩
    | arr ver e l => exact ⟨_, rfl⟩
theorem Det.ob {w : Bool} {F : (T → St → Prop) → Prop} {v : T} {fx : Nat → Bool} {o : Option Ob} (h : K v (merge s [] fx (obL o))) (hF : ∀ K' : Kn, K' v (merge s [] fx (obL o)) → F K') : Det w s F K := by
  refine ⟨v, _, h, hF, ?_⟩
  rcases merge_ob (s := s) fx o with e | ⟨o', e⟩
  · exact .inl e
  · exact .inr (.inl ⟨o', e⟩)
theorem gamOf_ok : ∀ {l : List (FuncId × Bool × Sp)}, (∀ p ∈ l, p.2.2.Ok P p.1 p.2.1) → GamOk P (gamOf l)
  | [], _, f, vs, s, K, X, h => h.elim
  | (f', b, c) :: r, hl, f, vs, s, K, X, h => by
    simp only [gamOf] at h
    split at h
    · rename_i hd
      obtain rfl := of_decide_eq_true hd
      have hc := hl (f, b, c) (by simp)
      cases b with
      | true => exact hc.lend_ok h
      | false => exact hc.run_ok h
    · exact gamOf_ok (fun p hp => hl p (by simp [hp])) f vs s K X h
theorem Raw.Ok.C_ok {r : Raw} (hr : r.Ok P f) (h : r.C vs s K X) : FCalls P f vs s K X r.c0 := by
  unfold Raw.C at h
  split at h
  case h_2 => exact h.elim
  rename_i a b ha hb
  obtain ⟨g, g1, g2, _⟩ := typed_some h
  obtain ⟨u1, u2, he, k1, k2⟩ := g2.append_inv
  obtain ⟨h1, h2⟩ := bldL_ok u2 ha k1
  obtain ⟨_, h3, h4⟩ := bldS_ok [] hb k2
  rw [List.append_nil] at h3 h4
  have hF := hr g K X g1
  unfold argsT storeT at hF
  rw [he, h1] at hF
  intro g0 w hg
  obtain ⟨q1, q2⟩ := good_weak hg h3 h4
  refine Atc.weak ((hF g0 w q1).mono ?_) h2
  rintro e w' ⟨g', st', p1, p2, p3⟩
  rw [h3] at p2
  exact ⟨g', st', p1, (q2 _).trans p2, p3⟩
def rawFits (r : Raw) (vs : List T) (s : St) : Bool :=
  match collectL r.shs (rnL s false (pos0 (reach s 64 (objsL vs) [])) vs), collectS r.obs (rnS s false (reach s 64 (objsL vs) [])) with
  | some _, some _ => true
  | _, _ => false
def gamX (rs : List (FuncId × Raw)) (l : List (FuncId × Bool × Sp)) : Gam := fun f vs s K X =>
  match rs with
  | [] => gamOf l f vs s K X
  | (f', r) :: rs => match decide (f = f') && rawFits r vs s with
    | true => frameD r.c0 r.C vs s K X
    | false => gamX rs l f vs s K X
theorem gamX_ok : ∀ {rs : List (FuncId × Raw)} {l : List (FuncId × Bool × Sp)}, (∀ p ∈ rs, p.2.Ok P p.1) → (∀ p ∈ l, p.2.2.Ok P p.1 p.2.1) → GamOk P (gamX rs l)
  | [], l, _, hl, f, vs, s, K, X, h => gamOf_ok hl f vs s K X (by simpa [gamX] using h)
  | (f', r) :: rs, l, hr, hl, f, vs, s, K, X, h => by
    simp only [gamX] at h
    split at h
    · rename_i hd
      rw [Bool.and_eq_true] at hd
      obtain rfl := of_decide_eq_true hd.1
      exact frameD_sound (fun vs s K X h => (hr (f, r) (by simp)).C_ok h) h
    · exact gamX_ok (fun p hp => hr p (by simp [hp])) hl f vs s K X h
theorem gamOf_det : ∀ {l : List (FuncId × Bool × Sp)}, GamDet (fun _ => false) (gamOf l)
  | [], f, vs, s, K, h => h.elim
  | (f', b, c) :: r, f, vs, s, K, h => by
    simp only [gamOf] at h
    split at h
    · rename_i hd
      cases b with
      | true =>
        obtain ⟨g, ⟨g1, g2⟩, _, g4⟩ := coll_some h
        exact .same g2 fun K' h' => by simp only [gamOf, hd]; exact g4 _ ⟨g1, h'⟩
      | false =>
        obtain ⟨g, ⟨g1, g2⟩, _, g4⟩ := coll_some h
        exact .ob g2 fun K' h' => by simp only [gamOf, hd]; exact g4 _ ⟨g1, h'⟩
    · rename_i hd
      obtain ⟨v, s', h1, h2, h3⟩ := gamOf_det f vs s K h
      exact ⟨v, s', h1, fun K' h' => by simp only [gamOf, hd]; exact h2 K' h', h3⟩
end
theorem gamX_det {l : List (FuncId × Bool × Sp)} : ∀ {rs : List (FuncId × Raw)}, GamDet (fun _ => false) (gamR (isRaw rs) (gamX rs l)) := by
  have key : ∀ (rs : List (FuncId × Raw)) (f : FuncId), isRaw rs f = false → gamX rs l f = gamOf l f := by
    intro rs
    induction rs with
    | nil => intro f _; rfl
    | cons p rs ih =>
      intro f hf
      obtain ⟨f', r⟩ := p
      simp only [isRaw] at hf
      split at hf
      · cases hf
      · rename_i hd
        funext vs s K X
        simp only [gamX, hd, Bool.false_and]
        rw [ih f hf]
  intro rs f vs s K h
  unfold gamR at h ⊢
  cases hf : isRaw rs f with
  | true => rw [hf] at h; exact h.elim
  | false =>
    rw [hf] at h
    simp only [key rs f hf] at h ⊢
    exact gamOf_det f vs s K h
def wkK (K : Kn) : Kn := fun r s => ∃ r', Weak r r' ∧ K r' s
theorem FCalls.weak {P : Program} {f : FuncId} {vs : List T} {s : St} {K X : Kn} (h : FCalls P f vs s (wkK K) X) : FCalls P f vs s K X := by
  refine fun g w hg => (h g w hg).mono fun e w' ⟨g', st', h1, h2, h3⟩ => ?_
  cases e with
  | returned x =>
    obtain ⟨r, ⟨r', r1, r2⟩, r3⟩ := h3
    exact ⟨g', st', h1, h2, r', r2, r1 _ _ _ r3⟩
  | panicked ch => exact ⟨g', st', h1, h2, h3⟩
  | outgrown => exact h3.elim
theorem Weak.refl (v : T) : Weak v v := fun _ _ _ h => h
theorem Weak.sl (b : Bool) (e : El) (l : List (ty e)) : Weak (.sl b e l) (.sl false e l) := fun _ g x h => by
  cases h with
  | sl _ _ _ A c h1 h2 h3 h4 => exact .sl false e l A c h1 h2 (by simp) h4
theorem Weak.nil (e : El) : Weak .nil (.sl false e []) := fun _ g x h => h.wk (.nil e)
theorem WeakL.cons {v u : T} {vs us : List T} (h : Weak v u) (k : WeakL vs us) : WeakL (v :: vs) (u :: us) :=
  ⟨by simp [k.1], fun i w hw => by
    cases i with
    | zero => simp at hw; subst hw; exact ⟨v, rfl, h⟩
    | succ i => simp at hw ⊢; exact k.2 i w hw⟩
theorem WeakL.nil : WeakL [] [] := ⟨rfl, fun i w hw => by simp at hw⟩
theorem WeakL.at {vs us : List T} (k : WeakL vs us) {g : G P} {xs : Array Value} (h : ∀ (i : Nat) (c : T) (x : Value), vs[i]? = some c → xs[i]? = some x → R g c x) : ∀ (i : Nat) (c : T) (x : Value), us[i]? = some c → xs[i]? = some x → R g c x := by
  intro i c x hc hx
  obtain ⟨v, v1, v2⟩ := k.2 i c hc
  exact v2 _ g x (h i v x v1 hx)
theorem Weak.tu {vs us : List T} (k : WeakL vs us) : Weak (.tu vs) (.tu us) := by
  intro _ g x h
  cases h with
  | tu _ xs h1 h2 => exact .tu us xs (by rw [← h1]; exact k.1) (k.at h2)
theorem Weak.ag {vs us : List T} (k : WeakL vs us) : Weak (.ag vs) (.ag us) := by
  intro _ g x h
  cases h with
  | ag _ xs h1 h2 h3 => exact .ag us xs (by rw [← h1]; exact k.1) (k.at h2) h3
theorem wkK.same {K : Kn} {r : T} {s : St} (h : K r s) : wkK K r s := ⟨r, .refl r, h⟩
theorem wkK.sl {K : Kn} {b : Bool} {e : El} {l : List (ty e)} {s : St} (h : K (.sl false e l) s) : wkK K (.sl b e l) s := ⟨_, .sl b e l, h⟩
theorem wkK.nil {K : Kn} (e : El) {s : St} (h : K (.sl false e []) s) : wkK K .nil s := ⟨_, .nil e, h⟩
theorem LoopW.of {γ : Type} {body : (γ → Prop) → γ → Prop} (I : γ → Prop) (m : γ → Nat) (hI : ∀ g, I g → ∀ W : γ → Prop, (∀ g', I g' → m g' < m g → W g') → body W g) {g : γ} (h : I g) : LoopW body g := by
  have key : ∀ n g, I g → m g < n → loopN body n g := by
    intro n
    induction n with
    | zero => intro g _ h; exact absurd h (Nat.not_lt_zero _)
    | succ n ih => intro g hg hm; exact hI g hg _ fun g' h1 h2 => ih g' h1 (by omega)
  exact ⟨m g + 1, key _ g h (Nat.lt_succ_self _)⟩
end Go.Proofs.YtoclmkbjgmgekaaDoor
namespace Go.Proofs.YtoclmkbjgmgekaaDoor
set_option linter.unusedVariables false
set_option linter.unusedSimpArgs false
set_option linter.unusedSectionVars false
set_option maxRecDepth 100000
abbrev lvs : El → List Lf
  | .str => [.str]
  | .u8 => [.int .u8]
  | .dig => [.int .u8, .int .u8, .int .u8, .int .u8, .int .u8, .int .u8, .int .u8, .int .u8, .int .u8, .int .u8, .int .u8, .int .u8, .int .u8, .int .u8, .int .u8, .int .u8, .int .u8, .int .u8, .int .u8, .int .u8, .int .u8, .int .u8, .int .u8, .int .u8, .int .u8, .int .u8, .int .u8, .int .u8, .int .u8, .int .u8, .int .u8, .int .u8]
  | .rng => [.int .u8, .int .u8, .int .u8, .int .u8, .int .u8, .int .u8, .int .u8, .int .u8, .int .u8, .int .u8, .int .u8, .int .u8, .int .u8, .int .u8, .int .u8, .int .u8, .int .u8, .int .u8, .int .u8, .int .u8, .int .u8, .int .u8, .int .u8, .int .u8, .int .u8, .int .u8, .int .u8, .int .u8, .int .u8, .int .u8, .int .u8, .int .u8, .int .u8, .int .u8, .int .u8, .int .u8, .int .u8, .int .u8, .int .u8, .int .u8, .int .u8, .int .u8, .int .u8, .int .u8, .int .u8, .int .u8, .int .u8, .int .u8, .int .u8, .int .u8, .int .u8, .int .u8, .int .u8, .int .u8, .int .u8, .int .u8, .int .u8, .int .u8, .int .u8, .int .u8, .int .u8, .int .u8, .int .u8, .int .u8, .bool, .int .i64, .int .u8, .int .u8, .int .u8, .int .u8, .int .u8, .int .u8, .int .u8, .int .u8, .int .u8, .int .u8, .int .u8, .int .u8, .int .u8, .int .u8, .int .u8, .int .u8, .int .u8, .int .u8, .int .u8, .int .u8, .int .u8, .int .u8, .int .u8, .int .u8, .int .u8, .int .u8, .int .u8, .int .u8, .int .u8, .int .u8, .int .u8, .int .u8, .sl .dig]
  | .sgn => [.int .i64, .sl .dig, .sl .dig, .sl .dig]
  | .msg => [.int .i64, .str, .sl .dig, .sl .rng, .sl .str, .sl .str, .int .i64, .str, .int .i64, .sl .dig, .sl .dig, .sl .dig]
  | .ment => [.int .i64, .str]
  | .sexp => [.bool, .str, .sl .sexp]
def mkE : (e : El) → prodL (lvs e) → ty e
  | .str, g => g.1
  | .u8, g => g.1
  | .dig, g => ⟨g.1, g.2.1, g.2.2.1, g.2.2.2.1, g.2.2.2.2.1, g.2.2.2.2.2.1, g.2.2.2.2.2.2.1, g.2.2.2.2.2.2.2.1, g.2.2.2.2.2.2.2.2.1, g.2.2.2.2.2.2.2.2.2.1, g.2.2.2.2.2.2.2.2.2.2.1, g.2.2.2.2.2.2.2.2.2.2.2.1, g.2.2.2.2.2.2.2.2.2.2.2.2.1, g.2.2.2.2.2.2.2.2.2.2.2.2.2.1, g.2.2.2.2.2.2.2.2.2.2.2.2.2.2.1, g.2.2.2.2.2.2.2.2.2.2.2.2.2.2.2.1, g.2.2.2.2.2.2.2.2.2.2.2.2.2.2.2.2.1, g.2.2.2.2.2.2.2.2.2.2.2.2.2.2.2.2.2.1, g.2.2.2.2.2.2.2.2.2.2.2.2.2.2.2.2.2.2.1, g.2.2.2.2.2.2.2.2.2.2.2.2.2.2.2.2.2.2.2.1, g.2.2.2.2.2.2.2.2.2.2.2.2.2.2.2.2.2.2.2.2.1, g.2.2.2.2.2.2.2.2.2.2.2.2.2.2.2.2.2.2.2.2.2.1, g.2.2.2.2.2.2.2.2.2.2.2.2.2.2.2.2.2.2.2.2.2.2.1, g.2.2.2.2.2.2.2.2.2.2.2.2.2.2.2.2.2.2.2.2.2.2.2.1, g.2.2.2.2.2.2.2.2.2.2.2.2.2.2.2.2.2.2.2.2.2.2.2.2.1, g.2.2.2.2.2.2.2.2.2.2.2.2.2.2.2.2.2.2.2.2.2.2.2.2.2.1, g.2.2.2.2.2.2.2.2.2.2.2.2.2.2.2.2.2.2.2.2.2.2.2.2.2.2.1, g.2.2.2.2.2.2.2.2.2.2.2.2.2.2.2.2.2.2.2.2.2.2.2.2.2.2.2.1, g.2.2.2.2.2.2.2.2.2.2.2.2.2.2.2.2.2.2.2.2.2.2.2.2.2.2.2.2.1, g.2.2.2.2.2.2.2.2.2.2.2.2.2.2.2.2.2.2.2.2.2.2.2.2.2.2.2.2.2.1, g.2.2.2.2.2.2.2.2.2.2.2.2.2.2.2.2.2.2.2.2.2.2.2.2.2.2.2.2.2.2.1, g.2.2.2.2.2.2.2.2.2.2.2.2.2.2.2.2.2.2.2.2.2.2.2.2.2.2.2.2.2.2.2.1⟩
  | .rng, g => ⟨⟨g.1, g.2.1, g.2.2.1, g.2.2.2.1, g.2.2.2.2.1, g.2.2.2.2.2.1, g.2.2.2.2.2.2.1, g.2.2.2.2.2.2.2.1, g.2.2.2.2.2.2.2.2.1, g.2.2.2.2.2.2.2.2.2.1, g.2.2.2.2.2.2.2.2.2.2.1, g.2.2.2.2.2.2.2.2.2.2.2.1, g.2.2.2.2.2.2.2.2.2.2.2.2.1, g.2.2.2.2.2.2.2.2.2.2.2.2.2.1, g.2.2.2.2.2.2.2.2.2.2.2.2.2.2.1, g.2.2.2.2.2.2.2.2.2.2.2.2.2.2.2.1, g.2.2.2.2.2.2.2.2.2.2.2.2.2.2.2.2.1, g.2.2.2.2.2.2.2.2.2.2.2.2.2.2.2.2.2.1, g.2.2.2.2.2.2.2.2.2.2.2.2.2.2.2.2.2.2.1, g.2.2.2.2.2.2.2.2.2.2.2.2.2.2.2.2.2.2.2.1, g.2.2.2.2.2.2.2.2.2.2.2.2.2.2.2.2.2.2.2.2.1, g.2.2.2.2.2.2.2.2.2.2.2.2.2.2.2.2.2.2.2.2.2.1, g.2.2.2.2.2.2.2.2.2.2.2.2.2.2.2.2.2.2.2.2.2.2.1, g.2.2.2.2.2.2.2.2.2.2.2.2.2.2.2.2.2.2.2.2.2.2.2.1, g.2.2.2.2.2.2.2.2.2.2.2.2.2.2.2.2.2.2.2.2.2.2.2.2.1, g.2.2.2.2.2.2.2.2.2.2.2.2.2.2.2.2.2.2.2.2.2.2.2.2.2.1, g.2.2.2.2.2.2.2.2.2.2.2.2.2.2.2.2.2.2.2.2.2.2.2.2.2.2.1, g.2.2.2.2.2.2.2.2.2.2.2.2.2.2.2.2.2.2.2.2.2.2.2.2.2.2.2.1, g.2.2.2.2.2.2.2.2.2.2.2.2.2.2.2.2.2.2.2.2.2.2.2.2.2.2.2.2.1, g.2.2.2.2.2.2.2.2.2.2.2.2.2.2.2.2.2.2.2.2.2.2.2.2.2.2.2.2.2.1, g.2.2.2.2.2.2.2.2.2.2.2.2.2.2.2.2.2.2.2.2.2.2.2.2.2.2.2.2.2.2.1, g.2.2.2.2.2.2.2.2.2.2.2.2.2.2.2.2.2.2.2.2.2.2.2.2.2.2.2.2.2.2.2.1⟩, ⟨g.2.2.2.2.2.2.2.2.2.2.2.2.2.2.2.2.2.2.2.2.2.2.2.2.2.2.2.2.2.2.2.2.1, g.2.2.2.2.2.2.2.2.2.2.2.2.2.2.2.2.2.2.2.2.2.2.2.2.2.2.2.2.2.2.2.2.2.1, g.2.2.2.2.2.2.2.2.2.2.2.2.2.2.2.2.2.2.2.2.2.2.2.2.2.2.2.2.2.2.2.2.2.2.1, g.2.2.2.2.2.2.2.2.2.2.2.2.2.2.2.2.2.2.2.2.2.2.2.2.2.2.2.2.2.2.2.2.2.2.2.1, g.2.2.2.2.2.2.2.2.2.2.2.2.2.2.2.2.2.2.2.2.2.2.2.2.2.2.2.2.2.2.2.2.2.2.2.2.1, g.2.2.2.2.2.2.2.2.2.2.2.2.2.2.2.2.2.2.2.2.2.2.2.2.2.2.2.2.2.2.2.2.2.2.2.2.2.1, g.2.2.2.2.2.2.2.2.2.2.2.2.2.2.2.2.2.2.2.2.2.2.2.2.2.2.2.2.2.2.2.2.2.2.2.2.2.2.1, g.2.2.2.2.2.2.2.2.2.2.2.2.2.2.2.2.2.2.2.2.2.2.2.2.2.2.2.2.2.2.2.2.2.2.2.2.2.2.2.1, g.2.2.2.2.2.2.2.2.2.2.2.2.2.2.2.2.2.2.2.2.2.2.2.2.2.2.2.2.2.2.2.2.2.2.2.2.2.2.2.2.1, g.2.2.2.2.2.2.2.2.2.2.2.2.2.2.2.2.2.2.2.2.2.2.2.2.2.2.2.2.2.2.2.2.2.2.2.2.2.2.2.2.2.1, g.2.2.2.2.2.2.2.2.2.2.2.2.2.2.2.2.2.2.2.2.2.2.2.2.2.2.2.2.2.2.2.2.2.2.2.2.2.2.2.2.2.2.1, g.2.2.2.2.2.2.2.2.2.2.2.2.2.2.2.2.2.2.2.2.2.2.2.2.2.2.2.2.2.2.2.2.2.2.2.2.2.2.2.2.2.2.2.1, g.2.2.2.2.2.2.2.2.2.2.2.2.2.2.2.2.2.2.2.2.2.2.2.2.2.2.2.2.2.2.2.2.2.2.2.2.2.2.2.2.2.2.2.2.1, g.2.2.2.2.2.2.2.2.2.2.2.2.2.2.2.2.2.2.2.2.2.2.2.2.2.2.2.2.2.2.2.2.2.2.2.2.2.2.2.2.2.2.2.2.2.1, g.2.2.2.2.2.2.2.2.2.2.2.2.2.2.2.2.2.2.2.2.2.2.2.2.2.2.2.2.2.2.2.2.2.2.2.2.2.2.2.2.2.2.2.2.2.2.1, g.2.2.2.2.2.2.2.2.2.2.2.2.2.2.2.2.2.2.2.2.2.2.2.2.2.2.2.2.2.2.2.2.2.2.2.2.2.2.2.2.2.2.2.2.2.2.2.1, g.2.2.2.2.2.2.2.2.2.2.2.2.2.2.2.2.2.2.2.2.2.2.2.2.2.2.2.2.2.2.2.2.2.2.2.2.2.2.2.2.2.2.2.2.2.2.2.2.1, g.2.2.2.2.2.2.2.2.2.2.2.2.2.2.2.2.2.2.2.2.2.2.2.2.2.2.2.2.2.2.2.2.2.2.2.2.2.2.2.2.2.2.2.2.2.2.2.2.2.1, g.2.2.2.2.2.2.2.2.2.2.2.2.2.2.2.2.2.2.2.2.2.2.2.2.2.2.2.2.2.2.2.2.2.2.2.2.2.2.2.2.2.2.2.2.2.2.2.2.2.2.1, g.2.2.2.2.2.2.2.2.2.2.2.2.2.2.2.2.2.2.2.2.2.2.2.2.2.2.2.2.2.2.2.2.2.2.2.2.2.2.2.2.2.2.2.2.2.2.2.2.2.2.2.1, g.2.2.2.2.2.2.2.2.2.2.2.2.2.2.2.2.2.2.2.2.2.2.2.2.2.2.2.2.2.2.2.2.2.2.2.2.2.2.2.2.2.2.2.2.2.2.2.2.2.2.2.2.1, g.2.2.2.2.2.2.2.2.2.2.2.2.2.2.2.2.2.2.2.2.2.2.2.2.2.2.2.2.2.2.2.2.2.2.2.2.2.2.2.2.2.2.2.2.2.2.2.2.2.2.2.2.2.1, g.2.2.2.2.2.2.2.2.2.2.2.2.2.2.2.2.2.2.2.2.2.2.2.2.2.2.2.2.2.2.2.2.2.2.2.2.2.2.2.2.2.2.2.2.2.2.2.2.2.2.2.2.2.2.1, g.2.2.2.2.2.2.2.2.2.2.2.2.2.2.2.2.2.2.2.2.2.2.2.2.2.2.2.2.2.2.2.2.2.2.2.2.2.2.2.2.2.2.2.2.2.2.2.2.2.2.2.2.2.2.2.1, g.2.2.2.2.2.2.2.2.2.2.2.2.2.2.2.2.2.2.2.2.2.2.2.2.2.2.2.2.2.2.2.2.2.2.2.2.2.2.2.2.2.2.2.2.2.2.2.2.2.2.2.2.2.2.2.2.1, g.2.2.2.2.2.2.2.2.2.2.2.2.2.2.2.2.2.2.2.2.2.2.2.2.2.2.2.2.2.2.2.2.2.2.2.2.2.2.2.2.2.2.2.2.2.2.2.2.2.2.2.2.2.2.2.2.2.1, g.2.2.2.2.2.2.2.2.2.2.2.2.2.2.2.2.2.2.2.2.2.2.2.2.2.2.2.2.2.2.2.2.2.2.2.2.2.2.2.2.2.2.2.2.2.2.2.2.2.2.2.2.2.2.2.2.2.2.1, g.2.2.2.2.2.2.2.2.2.2.2.2.2.2.2.2.2.2.2.2.2.2.2.2.2.2.2.2.2.2.2.2.2.2.2.2.2.2.2.2.2.2.2.2.2.2.2.2.2.2.2.2.2.2.2.2.2.2.2.1, g.2.2.2.2.2.2.2.2.2.2.2.2.2.2.2.2.2.2.2.2.2.2.2.2.2.2.2.2.2.2.2.2.2.2.2.2.2.2.2.2.2.2.2.2.2.2.2.2.2.2.2.2.2.2.2.2.2.2.2.2.1, g.2.2.2.2.2.2.2.2.2.2.2.2.2.2.2.2.2.2.2.2.2.2.2.2.2.2.2.2.2.2.2.2.2.2.2.2.2.2.2.2.2.2.2.2.2.2.2.2.2.2.2.2.2.2.2.2.2.2.2.2.2.1, g.2.2.2.2.2.2.2.2.2.2.2.2.2.2.2.2.2.2.2.2.2.2.2.2.2.2.2.2.2.2.2.2.2.2.2.2.2.2.2.2.2.2.2.2.2.2.2.2.2.2.2.2.2.2.2.2.2.2.2.2.2.2.1, g.2.2.2.2.2.2.2.2.2.2.2.2.2.2.2.2.2.2.2.2.2.2.2.2.2.2.2.2.2.2.2.2.2.2.2.2.2.2.2.2.2.2.2.2.2.2.2.2.2.2.2.2.2.2.2.2.2.2.2.2.2.2.2.1⟩, g.2.2.2.2.2.2.2.2.2.2.2.2.2.2.2.2.2.2.2.2.2.2.2.2.2.2.2.2.2.2.2.2.2.2.2.2.2.2.2.2.2.2.2.2.2.2.2.2.2.2.2.2.2.2.2.2.2.2.2.2.2.2.2.2.1, g.2.2.2.2.2.2.2.2.2.2.2.2.2.2.2.2.2.2.2.2.2.2.2.2.2.2.2.2.2.2.2.2.2.2.2.2.2.2.2.2.2.2.2.2.2.2.2.2.2.2.2.2.2.2.2.2.2.2.2.2.2.2.2.2.2.1, ⟨g.2.2.2.2.2.2.2.2.2.2.2.2.2.2.2.2.2.2.2.2.2.2.2.2.2.2.2.2.2.2.2.2.2.2.2.2.2.2.2.2.2.2.2.2.2.2.2.2.2.2.2.2.2.2.2.2.2.2.2.2.2.2.2.2.2.2.1, g.2.2.2.2.2.2.2.2.2.2.2.2.2.2.2.2.2.2.2.2.2.2.2.2.2.2.2.2.2.2.2.2.2.2.2.2.2.2.2.2.2.2.2.2.2.2.2.2.2.2.2.2.2.2.2.2.2.2.2.2.2.2.2.2.2.2.2.1, g.2.2.2.2.2.2.2.2.2.2.2.2.2.2.2.2.2.2.2.2.2.2.2.2.2.2.2.2.2.2.2.2.2.2.2.2.2.2.2.2.2.2.2.2.2.2.2.2.2.2.2.2.2.2.2.2.2.2.2.2.2.2.2.2.2.2.2.2.1, g.2.2.2.2.2.2.2.2.2.2.2.2.2.2.2.2.2.2.2.2.2.2.2.2.2.2.2.2.2.2.2.2.2.2.2.2.2.2.2.2.2.2.2.2.2.2.2.2.2.2.2.2.2.2.2.2.2.2.2.2.2.2.2.2.2.2.2.2.2.1, g.2.2.2.2.2.2.2.2.2.2.2.2.2.2.2.2.2.2.2.2.2.2.2.2.2.2.2.2.2.2.2.2.2.2.2.2.2.2.2.2.2.2.2.2.2.2.2.2.2.2.2.2.2.2.2.2.2.2.2.2.2.2.2.2.2.2.2.2.2.2.1, g.2.2.2.2.2.2.2.2.2.2.2.2.2.2.2.2.2.2.2.2.2.2.2.2.2.2.2.2.2.2.2.2.2.2.2.2.2.2.2.2.2.2.2.2.2.2.2.2.2.2.2.2.2.2.2.2.2.2.2.2.2.2.2.2.2.2.2.2.2.2.2.1, g.2.2.2.2.2.2.2.2.2.2.2.2.2.2.2.2.2.2.2.2.2.2.2.2.2.2.2.2.2.2.2.2.2.2.2.2.2.2.2.2.2.2.2.2.2.2.2.2.2.2.2.2.2.2.2.2.2.2.2.2.2.2.2.2.2.2.2.2.2.2.2.2.1, g.2.2.2.2.2.2.2.2.2.2.2.2.2.2.2.2.2.2.2.2.2.2.2.2.2.2.2.2.2.2.2.2.2.2.2.2.2.2.2.2.2.2.2.2.2.2.2.2.2.2.2.2.2.2.2.2.2.2.2.2.2.2.2.2.2.2.2.2.2.2.2.2.2.1, g.2.2.2.2.2.2.2.2.2.2.2.2.2.2.2.2.2.2.2.2.2.2.2.2.2.2.2.2.2.2.2.2.2.2.2.2.2.2.2.2.2.2.2.2.2.2.2.2.2.2.2.2.2.2.2.2.2.2.2.2.2.2.2.2.2.2.2.2.2.2.2.2.2.2.1, g.2.2.2.2.2.2.2.2.2.2.2.2.2.2.2.2.2.2.2.2.2.2.2.2.2.2.2.2.2.2.2.2.2.2.2.2.2.2.2.2.2.2.2.2.2.2.2.2.2.2.2.2.2.2.2.2.2.2.2.2.2.2.2.2.2.2.2.2.2.2.2.2.2.2.2.1, g.2.2.2.2.2.2.2.2.2.2.2.2.2.2.2.2.2.2.2.2.2.2.2.2.2.2.2.2.2.2.2.2.2.2.2.2.2.2.2.2.2.2.2.2.2.2.2.2.2.2.2.2.2.2.2.2.2.2.2.2.2.2.2.2.2.2.2.2.2.2.2.2.2.2.2.2.1, g.2.2.2.2.2.2.2.2.2.2.2.2.2.2.2.2.2.2.2.2.2.2.2.2.2.2.2.2.2.2.2.2.2.2.2.2.2.2.2.2.2.2.2.2.2.2.2.2.2.2.2.2.2.2.2.2.2.2.2.2.2.2.2.2.2.2.2.2.2.2.2.2.2.2.2.2.2.1, g.2.2.2.2.2.2.2.2.2.2.2.2.2.2.2.2.2.2.2.2.2.2.2.2.2.2.2.2.2.2.2.2.2.2.2.2.2.2.2.2.2.2.2.2.2.2.2.2.2.2.2.2.2.2.2.2.2.2.2.2.2.2.2.2.2.2.2.2.2.2.2.2.2.2.2.2.2.2.1, g.2.2.2.2.2.2.2.2.2.2.2.2.2.2.2.2.2.2.2.2.2.2.2.2.2.2.2.2.2.2.2.2.2.2.2.2.2.2.2.2.2.2.2.2.2.2.2.2.2.2.2.2.2.2.2.2.2.2.2.2.2.2.2.2.2.2.2.2.2.2.2.2.2.2.2.2.2.2.2.1, g.2.2.2.2.2.2.2.2.2.2.2.2.2.2.2.2.2.2.2.2.2.2.2.2.2.2.2.2.2.2.2.2.2.2.2.2.2.2.2.2.2.2.2.2.2.2.2.2.2.2.2.2.2.2.2.2.2.2.2.2.2.2.2.2.2.2.2.2.2.2.2.2.2.2.2.2.2.2.2.2.1, g.2.2.2.2.2.2.2.2.2.2.2.2.2.2.2.2.2.2.2.2.2.2.2.2.2.2.2.2.2.2.2.2.2.2.2.2.2.2.2.2.2.2.2.2.2.2.2.2.2.2.2.2.2.2.2.2.2.2.2.2.2.2.2.2.2.2.2.2.2.2.2.2.2.2.2.2.2.2.2.2.2.1, g.2.2.2.2.2.2.2.2.2.2.2.2.2.2.2.2.2.2.2.2.2.2.2.2.2.2.2.2.2.2.2.2.2.2.2.2.2.2.2.2.2.2.2.2.2.2.2.2.2.2.2.2.2.2.2.2.2.2.2.2.2.2.2.2.2.2.2.2.2.2.2.2.2.2.2.2.2.2.2.2.2.2.1, g.2.2.2.2.2.2.2.2.2.2.2.2.2.2.2.2.2.2.2.2.2.2.2.2.2.2.2.2.2.2.2.2.2.2.2.2.2.2.2.2.2.2.2.2.2.2.2.2.2.2.2.2.2.2.2.2.2.2.2.2.2.2.2.2.2.2.2.2.2.2.2.2.2.2.2.2.2.2.2.2.2.2.2.1, g.2.2.2.2.2.2.2.2.2.2.2.2.2.2.2.2.2.2.2.2.2.2.2.2.2.2.2.2.2.2.2.2.2.2.2.2.2.2.2.2.2.2.2.2.2.2.2.2.2.2.2.2.2.2.2.2.2.2.2.2.2.2.2.2.2.2.2.2.2.2.2.2.2.2.2.2.2.2.2.2.2.2.2.2.1, g.2.2.2.2.2.2.2.2.2.2.2.2.2.2.2.2.2.2.2.2.2.2.2.2.2.2.2.2.2.2.2.2.2.2.2.2.2.2.2.2.2.2.2.2.2.2.2.2.2.2.2.2.2.2.2.2.2.2.2.2.2.2.2.2.2.2.2.2.2.2.2.2.2.2.2.2.2.2.2.2.2.2.2.2.2.1, g.2.2.2.2.2.2.2.2.2.2.2.2.2.2.2.2.2.2.2.2.2.2.2.2.2.2.2.2.2.2.2.2.2.2.2.2.2.2.2.2.2.2.2.2.2.2.2.2.2.2.2.2.2.2.2.2.2.2.2.2.2.2.2.2.2.2.2.2.2.2.2.2.2.2.2.2.2.2.2.2.2.2.2.2.2.2.1, g.2.2.2.2.2.2.2.2.2.2.2.2.2.2.2.2.2.2.2.2.2.2.2.2.2.2.2.2.2.2.2.2.2.2.2.2.2.2.2.2.2.2.2.2.2.2.2.2.2.2.2.2.2.2.2.2.2.2.2.2.2.2.2.2.2.2.2.2.2.2.2.2.2.2.2.2.2.2.2.2.2.2.2.2.2.2.2.1, g.2.2.2.2.2.2.2.2.2.2.2.2.2.2.2.2.2.2.2.2.2.2.2.2.2.2.2.2.2.2.2.2.2.2.2.2.2.2.2.2.2.2.2.2.2.2.2.2.2.2.2.2.2.2.2.2.2.2.2.2.2.2.2.2.2.2.2.2.2.2.2.2.2.2.2.2.2.2.2.2.2.2.2.2.2.2.2.2.1, g.2.2.2.2.2.2.2.2.2.2.2.2.2.2.2.2.2.2.2.2.2.2.2.2.2.2.2.2.2.2.2.2.2.2.2.2.2.2.2.2.2.2.2.2.2.2.2.2.2.2.2.2.2.2.2.2.2.2.2.2.2.2.2.2.2.2.2.2.2.2.2.2.2.2.2.2.2.2.2.2.2.2.2.2.2.2.2.2.2.1, g.2.2.2.2.2.2.2.2.2.2.2.2.2.2.2.2.2.2.2.2.2.2.2.2.2.2.2.2.2.2.2.2.2.2.2.2.2.2.2.2.2.2.2.2.2.2.2.2.2.2.2.2.2.2.2.2.2.2.2.2.2.2.2.2.2.2.2.2.2.2.2.2.2.2.2.2.2.2.2.2.2.2.2.2.2.2.2.2.2.2.1, g.2.2.2.2.2.2.2.2.2.2.2.2.2.2.2.2.2.2.2.2.2.2.2.2.2.2.2.2.2.2.2.2.2.2.2.2.2.2.2.2.2.2.2.2.2.2.2.2.2.2.2.2.2.2.2.2.2.2.2.2.2.2.2.2.2.2.2.2.2.2.2.2.2.2.2.2.2.2.2.2.2.2.2.2.2.2.2.2.2.2.2.1, g.2.2.2.2.2.2.2.2.2.2.2.2.2.2.2.2.2.2.2.2.2.2.2.2.2.2.2.2.2.2.2.2.2.2.2.2.2.2.2.2.2.2.2.2.2.2.2.2.2.2.2.2.2.2.2.2.2.2.2.2.2.2.2.2.2.2.2.2.2.2.2.2.2.2.2.2.2.2.2.2.2.2.2.2.2.2.2.2.2.2.2.2.1, g.2.2.2.2.2.2.2.2.2.2.2.2.2.2.2.2.2.2.2.2.2.2.2.2.2.2.2.2.2.2.2.2.2.2.2.2.2.2.2.2.2.2.2.2.2.2.2.2.2.2.2.2.2.2.2.2.2.2.2.2.2.2.2.2.2.2.2.2.2.2.2.2.2.2.2.2.2.2.2.2.2.2.2.2.2.2.2.2.2.2.2.2.2.1, g.2.2.2.2.2.2.2.2.2.2.2.2.2.2.2.2.2.2.2.2.2.2.2.2.2.2.2.2.2.2.2.2.2.2.2.2.2.2.2.2.2.2.2.2.2.2.2.2.2.2.2.2.2.2.2.2.2.2.2.2.2.2.2.2.2.2.2.2.2.2.2.2.2.2.2.2.2.2.2.2.2.2.2.2.2.2.2.2.2.2.2.2.2.2.1, g.2.2.2.2.2.2.2.2.2.2.2.2.2.2.2.2.2.2.2.2.2.2.2.2.2.2.2.2.2.2.2.2.2.2.2.2.2.2.2.2.2.2.2.2.2.2.2.2.2.2.2.2.2.2.2.2.2.2.2.2.2.2.2.2.2.2.2.2.2.2.2.2.2.2.2.2.2.2.2.2.2.2.2.2.2.2.2.2.2.2.2.2.2.2.2.1, g.2.2.2.2.2.2.2.2.2.2.2.2.2.2.2.2.2.2.2.2.2.2.2.2.2.2.2.2.2.2.2.2.2.2.2.2.2.2.2.2.2.2.2.2.2.2.2.2.2.2.2.2.2.2.2.2.2.2.2.2.2.2.2.2.2.2.2.2.2.2.2.2.2.2.2.2.2.2.2.2.2.2.2.2.2.2.2.2.2.2.2.2.2.2.2.2.1, g.2.2.2.2.2.2.2.2.2.2.2.2.2.2.2.2.2.2.2.2.2.2.2.2.2.2.2.2.2.2.2.2.2.2.2.2.2.2.2.2.2.2.2.2.2.2.2.2.2.2.2.2.2.2.2.2.2.2.2.2.2.2.2.2.2.2.2.2.2.2.2.2.2.2.2.2.2.2.2.2.2.2.2.2.2.2.2.2.2.2.2.2.2.2.2.2.2.1⟩, g.2.2.2.2.2.2.2.2.2.2.2.2.2.2.2.2.2.2.2.2.2.2.2.2.2.2.2.2.2.2.2.2.2.2.2.2.2.2.2.2.2.2.2.2.2.2.2.2.2.2.2.2.2.2.2.2.2.2.2.2.2.2.2.2.2.2.2.2.2.2.2.2.2.2.2.2.2.2.2.2.2.2.2.2.2.2.2.2.2.2.2.2.2.2.2.2.2.2.1⟩
  | .sgn, g => ⟨g.1, g.2.1, g.2.2.1, g.2.2.2.1⟩
  | .msg, g => ⟨g.1, g.2.1, g.2.2.1, g.2.2.2.1, g.2.2.2.2.1, g.2.2.2.2.2.1, g.2.2.2.2.2.2.1, g.2.2.2.2.2.2.2.1, ⟨g.2.2.2.2.2.2.2.2.1, g.2.2.2.2.2.2.2.2.2.1, g.2.2.2.2.2.2.2.2.2.2.1, g.2.2.2.2.2.2.2.2.2.2.2.1⟩⟩
  | .ment, g => ⟨g.1, g.2.1⟩
  | .sexp, g => ⟨g.1, g.2.1, g.2.2.1⟩
theorem enc_mk : ∀ (e : El) (g : prodL (lvs e)), enc e (mkE e g) = envT (lvs e) g
  | .str, _ => rfl
  | .u8, _ => rfl
  | .dig, _ => rfl
  | .rng, _ => rfl
  | .sgn, _ => rfl
  | .msg, _ => rfl
  | .ment, _ => rfl
  | .sexp, _ => rfl
mutual
def bkS : Sx → Nat
  | ⟨_, a, l⟩ => a.size + 3 + bkSs l
def bkSs : List Sx → Nat
  | [] => 0
  | x :: l => bkS x + bkSs l
end
def bk_str (x : ByteArray) : Nat := (x.size + 1)
def bk_u8 (x : Int) : Nat := 1
def bk_dig (x : Dig) : Nat := 32
def bk_rng (x : Rng) : Nat := ((x.ids.map bk_dig).sum + 1) + 98
def bk_sgn (x : Sgn) : Nat := ((x.revealed.map bk_dig).sum + 1) + ((x.others.map bk_dig).sum + 1) + ((x.path.map bk_dig).sum + 1) + 1
def bk_msg (x : Msg) : Nat := (x.name.size + 1) + ((x.ids.map bk_dig).sum + 1) + ((x.ranges.map bk_rng).sum + 1) + ((x.patches.map bk_str).sum + 1) + ((x.paths.map bk_str).sum + 1) + (x.text.size + 1) + ((x.sig.revealed.map bk_dig).sum + 1) + ((x.sig.others.map bk_dig).sum + 1) + ((x.sig.path.map bk_dig).sum + 1) + 3
def bk_ment (x : Ment) : Nat := 1 + (x.val.size + 1)
def bk_sexp (x : Sx) : Nat := bkS x
def bk : (e : El) → ty e → Nat
  | .str, x => bk_str x
  | .u8, x => bk_u8 x
  | .dig, x => bk_dig x
  | .rng, x => bk_rng x
  | .sgn, x => bk_sgn x
  | .msg, x => bk_msg x
  | .ment, x => bk_ment x
  | .sexp, x => bk_sexp x
def bkL : (L : List Lf) → prodL L → Nat
  | [], _ => 0
  | .int _ :: r, g => 1 + bkL r g.2
  | .bool :: r, g => 1 + bkL r g.2
  | .str :: r, g => g.1.size + 1 + bkL r g.2
  | .sl e :: r, g => (g.1.map (bk e)).sum + 1 + bkL r g.2
  | .cst :: r, g => bkL r g.2
theorem bkSs_sum : ∀ (l : List Sx), bkSs l = (l.map bkS).sum
  | [] => rfl
  | x :: l => by simp only [bkSs, List.map_cons, List.sum_cons, bkSs_sum l]
theorem bk_mk : ∀ (e : El) (g : prodL (lvs e)), bk e (mkE e g) = bkL (lvs e) g
  | .str, g => by
    simp only [bk, bk_str, mkE, bkL] <;> omega
  | .u8, g => by
    simp only [bk, bk_u8, mkE, bkL] <;> omega
  | .dig, g => by
    simp only [bk, bk_dig, mkE, bkL] <;> omega
  | .rng, g => by
    have e98 : (g.2.2.2.2.2.2.2.2.2.2.2.2.2.2.2.2.2.2.2.2.2.2.2.2.2.2.2.2.2.2.2.2.2.2.2.2.2.2.2.2.2.2.2.2.2.2.2.2.2.2.2.2.2.2.2.2.2.2.2.2.2.2.2.2.2.2.2.2.2.2.2.2.2.2.2.2.2.2.2.2.2.2.2.2.2.2.2.2.2.2.2.2.2.2.2.2.2.2.1.map (bk .dig)).sum = (g.2.2.2.2.2.2.2.2.2.2.2.2.2.2.2.2.2.2.2.2.2.2.2.2.2.2.2.2.2.2.2.2.2.2.2.2.2.2.2.2.2.2.2.2.2.2.2.2.2.2.2.2.2.2.2.2.2.2.2.2.2.2.2.2.2.2.2.2.2.2.2.2.2.2.2.2.2.2.2.2.2.2.2.2.2.2.2.2.2.2.2.2.2.2.2.2.2.2.1.map bk_dig).sum := rfl
    simp only [bk, bk_rng, mkE, bkL, e98] <;> omega
  | .sgn, g => by
    have e1 : (g.2.1.map (bk .dig)).sum = (g.2.1.map bk_dig).sum := rfl
    have e2 : (g.2.2.1.map (bk .dig)).sum = (g.2.2.1.map bk_dig).sum := rfl
    have e3 : (g.2.2.2.1.map (bk .dig)).sum = (g.2.2.2.1.map bk_dig).sum := rfl
    simp only [bk, bk_sgn, mkE, bkL, e1, e2, e3] <;> omega
  | .msg, g => by
    have e2 : (g.2.2.1.map (bk .dig)).sum = (g.2.2.1.map bk_dig).sum := rfl
    have e3 : (g.2.2.2.1.map (bk .rng)).sum = (g.2.2.2.1.map bk_rng).sum := rfl
    have e4 : (g.2.2.2.2.1.map (bk .str)).sum = (g.2.2.2.2.1.map bk_str).sum := rfl
    have e5 : (g.2.2.2.2.2.1.map (bk .str)).sum = (g.2.2.2.2.2.1.map bk_str).sum := rfl
    have e9 : (g.2.2.2.2.2.2.2.2.2.1.map (bk .dig)).sum = (g.2.2.2.2.2.2.2.2.2.1.map bk_dig).sum := rfl
    have e10 : (g.2.2.2.2.2.2.2.2.2.2.1.map (bk .dig)).sum = (g.2.2.2.2.2.2.2.2.2.2.1.map bk_dig).sum := rfl
    have e11 : (g.2.2.2.2.2.2.2.2.2.2.2.1.map (bk .dig)).sum = (g.2.2.2.2.2.2.2.2.2.2.2.1.map bk_dig).sum := rfl
    simp only [bk, bk_msg, mkE, bkL, e2, e3, e4, e5, e9, e10, e11] <;> omega
  | .ment, g => by
    simp only [bk, bk_ment, mkE, bkL] <;> omega
  | .sexp, g => by
    have e : (g.2.2.1.map (bk .sexp)).sum = (g.2.2.1.map bkS).sum := rfl
    simp only [bk, bk_sexp, mkE, bkL, bkS, bkSs_sum, e]; omega
def wf_str (x : ByteArray) : Prop := True
def wf_u8 (x : Int) : Prop := (IntKind.u8.min ≤ x ∧ x ≤ IntKind.u8.max)
def wf_dig (x : Dig) : Prop := (IntKind.u8.min ≤ x.b0 ∧ x.b0 ≤ IntKind.u8.max) ∧ (IntKind.u8.min ≤ x.b1 ∧ x.b1 ≤ IntKind.u8.max) ∧ (IntKind.u8.min ≤ x.b2 ∧ x.b2 ≤ IntKind.u8.max) ∧ (IntKind.u8.min ≤ x.b3 ∧ x.b3 ≤ IntKind.u8.max) ∧ (IntKind.u8.min ≤ x.b4 ∧ x.b4 ≤ IntKind.u8.max) ∧ (IntKind.u8.min ≤ x.b5 ∧ x.b5 ≤ IntKind.u8.max) ∧ (IntKind.u8.min ≤ x.b6 ∧ x.b6 ≤ IntKind.u8.max) ∧ (IntKind.u8.min ≤ x.b7 ∧ x.b7 ≤ IntKind.u8.max) ∧ (IntKind.u8.min ≤ x.b8 ∧ x.b8 ≤ IntKind.u8.max) ∧ (IntKind.u8.min ≤ x.b9 ∧ x.b9 ≤ IntKind.u8.max) ∧ (IntKind.u8.min ≤ x.b10 ∧ x.b10 ≤ IntKind.u8.max) ∧ (IntKind.u8.min ≤ x.b11 ∧ x.b11 ≤ IntKind.u8.max) ∧ (IntKind.u8.min ≤ x.b12 ∧ x.b12 ≤ IntKind.u8.max) ∧ (IntKind.u8.min ≤ x.b13 ∧ x.b13 ≤ IntKind.u8.max) ∧ (IntKind.u8.min ≤ x.b14 ∧ x.b14 ≤ IntKind.u8.max) ∧ (IntKind.u8.min ≤ x.b15 ∧ x.b15 ≤ IntKind.u8.max) ∧ (IntKind.u8.min ≤ x.b16 ∧ x.b16 ≤ IntKind.u8.max) ∧ (IntKind.u8.min ≤ x.b17 ∧ x.b17 ≤ IntKind.u8.max) ∧ (IntKind.u8.min ≤ x.b18 ∧ x.b18 ≤ IntKind.u8.max) ∧ (IntKind.u8.min ≤ x.b19 ∧ x.b19 ≤ IntKind.u8.max) ∧ (IntKind.u8.min ≤ x.b20 ∧ x.b20 ≤ IntKind.u8.max) ∧ (IntKind.u8.min ≤ x.b21 ∧ x.b21 ≤ IntKind.u8.max) ∧ (IntKind.u8.min ≤ x.b22 ∧ x.b22 ≤ IntKind.u8.max) ∧ (IntKind.u8.min ≤ x.b23 ∧ x.b23 ≤ IntKind.u8.max) ∧ (IntKind.u8.min ≤ x.b24 ∧ x.b24 ≤ IntKind.u8.max) ∧ (IntKind.u8.min ≤ x.b25 ∧ x.b25 ≤ IntKind.u8.max) ∧ (IntKind.u8.min ≤ x.b26 ∧ x.b26 ≤ IntKind.u8.max) ∧ (IntKind.u8.min ≤ x.b27 ∧ x.b27 ≤ IntKind.u8.max) ∧ (IntKind.u8.min ≤ x.b28 ∧ x.b28 ≤ IntKind.u8.max) ∧ (IntKind.u8.min ≤ x.b29 ∧ x.b29 ≤ IntKind.u8.max) ∧ (IntKind.u8.min ≤ x.b30 ∧ x.b30 ≤ IntKind.u8.max) ∧ (IntKind.u8.min ≤ x.b31 ∧ x.b31 ≤ IntKind.u8.max)
def wf_rng (x : Rng) : Prop := (IntKind.u8.min ≤ x.low.b0 ∧ x.low.b0 ≤ IntKind.u8.max) ∧ (IntKind.u8.min ≤ x.low.b1 ∧ x.low.b1 ≤ IntKind.u8.max) ∧ (IntKind.u8.min ≤ x.low.b2 ∧ x.low.b2 ≤ IntKind.u8.max) ∧ (IntKind.u8.min ≤ x.low.b3 ∧ x.low.b3 ≤ IntKind.u8.max) ∧ (IntKind.u8.min ≤ x.low.b4 ∧ x.low.b4 ≤ IntKind.u8.max) ∧ (IntKind.u8.min ≤ x.low.b5 ∧ x.low.b5 ≤ IntKind.u8.max) ∧ (IntKind.u8.min ≤ x.low.b6 ∧ x.low.b6 ≤ IntKind.u8.max) ∧ (IntKind.u8.min ≤ x.low.b7 ∧ x.low.b7 ≤ IntKind.u8.max) ∧ (IntKind.u8.min ≤ x.low.b8 ∧ x.low.b8 ≤ IntKind.u8.max) ∧ (IntKind.u8.min ≤ x.low.b9 ∧ x.low.b9 ≤ IntKind.u8.max) ∧ (IntKind.u8.min ≤ x.low.b10 ∧ x.low.b10 ≤ IntKind.u8.max) ∧ (IntKind.u8.min ≤ x.low.b11 ∧ x.low.b11 ≤ IntKind.u8.max) ∧ (IntKind.u8.min ≤ x.low.b12 ∧ x.low.b12 ≤ IntKind.u8.max) ∧ (IntKind.u8.min ≤ x.low.b13 ∧ x.low.b13 ≤ IntKind.u8.max) ∧ (IntKind.u8.min ≤ x.low.b14 ∧ x.low.b14 ≤ IntKind.u8.max) ∧ (IntKind.u8.min ≤ x.low.b15 ∧ x.low.b15 ≤ IntKind.u8.max) ∧ (IntKind.u8.min ≤ x.low.b16 ∧ x.low.b16 ≤ IntKind.u8.max) ∧ (IntKind.u8.min ≤ x.low.b17 ∧ x.low.b17 ≤ IntKind.u8.max) ∧ (IntKind.u8.min ≤ x.low.b18 ∧ x.low.b18 ≤ IntKind.u8.max) ∧ (IntKind.u8.min ≤ x.low.b19 ∧ x.low.b19 ≤ IntKind.u8.max) ∧ (IntKind.u8.min ≤ x.low.b20 ∧ x.low.b20 ≤ IntKind.u8.max) ∧ (IntKind.u8.min ≤ x.low.b21 ∧ x.low.b21 ≤ IntKind.u8.max) ∧ (IntKind.u8.min ≤ x.low.b22 ∧ x.low.b22 ≤ IntKind.u8.max) ∧ (IntKind.u8.min ≤ x.low.b23 ∧ x.low.b23 ≤ IntKind.u8.max) ∧ (IntKind.u8.min ≤ x.low.b24 ∧ x.low.b24 ≤ IntKind.u8.max) ∧ (IntKind.u8.min ≤ x.low.b25 ∧ x.low.b25 ≤ IntKind.u8.max) ∧ (IntKind.u8.min ≤ x.low.b26 ∧ x.low.b26 ≤ IntKind.u8.max) ∧ (IntKind.u8.min ≤ x.low.b27 ∧ x.low.b27 ≤ IntKind.u8.max) ∧ (IntKind.u8.min ≤ x.low.b28 ∧ x.low.b28 ≤ IntKind.u8.max) ∧ (IntKind.u8.min ≤ x.low.b29 ∧ x.low.b29 ≤ IntKind.u8.max) ∧ (IntKind.u8.min ≤ x.low.b30 ∧ x.low.b30 ≤ IntKind.u8.max) ∧ (IntKind.u8.min ≤ x.low.b31 ∧ x.low.b31 ≤ IntKind.u8.max) ∧ (IntKind.u8.min ≤ x.high.b0 ∧ x.high.b0 ≤ IntKind.u8.max) ∧ (IntKind.u8.min ≤ x.high.b1 ∧ x.high.b1 ≤ IntKind.u8.max) ∧ (IntKind.u8.min ≤ x.high.b2 ∧ x.high.b2 ≤ IntKind.u8.max) ∧ (IntKind.u8.min ≤ x.high.b3 ∧ x.high.b3 ≤ IntKind.u8.max) ∧ (IntKind.u8.min ≤ x.high.b4 ∧ x.high.b4 ≤ IntKind.u8.max) ∧ (IntKind.u8.min ≤ x.high.b5 ∧ x.high.b5 ≤ IntKind.u8.max) ∧ (IntKind.u8.min ≤ x.high.b6 ∧ x.high.b6 ≤ IntKind.u8.max) ∧ (IntKind.u8.min ≤ x.high.b7 ∧ x.high.b7 ≤ IntKind.u8.max) ∧ (IntKind.u8.min ≤ x.high.b8 ∧ x.high.b8 ≤ IntKind.u8.max) ∧ (IntKind.u8.min ≤ x.high.b9 ∧ x.high.b9 ≤ IntKind.u8.max) ∧ (IntKind.u8.min ≤ x.high.b10 ∧ x.high.b10 ≤ IntKind.u8.max) ∧ (IntKind.u8.min ≤ x.high.b11 ∧ x.high.b11 ≤ IntKind.u8.max) ∧ (IntKind.u8.min ≤ x.high.b12 ∧ x.high.b12 ≤ IntKind.u8.max) ∧ (IntKind.u8.min ≤ x.high.b13 ∧ x.high.b13 ≤ IntKind.u8.max) ∧ (IntKind.u8.min ≤ x.high.b14 ∧ x.high.b14 ≤ IntKind.u8.max) ∧ (IntKind.u8.min ≤ x.high.b15 ∧ x.high.b15 ≤ IntKind.u8.max) ∧ (IntKind.u8.min ≤ x.high.b16 ∧ x.high.b16 ≤ IntKind.u8.max) ∧ (IntKind.u8.min ≤ x.high.b17 ∧ x.high.b17 ≤ IntKind.u8.max) ∧ (IntKind.u8.min ≤ x.high.b18 ∧ x.high.b18 ≤ IntKind.u8.max) ∧ (IntKind.u8.min ≤ x.high.b19 ∧ x.high.b19 ≤ IntKind.u8.max) ∧ (IntKind.u8.min ≤ x.high.b20 ∧ x.high.b20 ≤ IntKind.u8.max) ∧ (IntKind.u8.min ≤ x.high.b21 ∧ x.high.b21 ≤ IntKind.u8.max) ∧ (IntKind.u8.min ≤ x.high.b22 ∧ x.high.b22 ≤ IntKind.u8.max) ∧ (IntKind.u8.min ≤ x.high.b23 ∧ x.high.b23 ≤ IntKind.u8.max) ∧ (IntKind.u8.min ≤ x.high.b24 ∧ x.high.b24 ≤ IntKind.u8.max) ∧ (IntKind.u8.min ≤ x.high.b25 ∧ x.high.b25 ≤ IntKind.u8.max) ∧ (IntKind.u8.min ≤ x.high.b26 ∧ x.high.b26 ≤ IntKind.u8.max) ∧ (IntKind.u8.min ≤ x.high.b27 ∧ x.high.b27 ≤ IntKind.u8.max) ∧ (IntKind.u8.min ≤ x.high.b28 ∧ x.high.b28 ≤ IntKind.u8.max) ∧ (IntKind.u8.min ≤ x.high.b29 ∧ x.high.b29 ≤ IntKind.u8.max) ∧ (IntKind.u8.min ≤ x.high.b30 ∧ x.high.b30 ≤ IntKind.u8.max) ∧ (IntKind.u8.min ≤ x.high.b31 ∧ x.high.b31 ≤ IntKind.u8.max) ∧ (IntKind.i64.min ≤ x.count ∧ x.count ≤ IntKind.i64.max) ∧ (IntKind.u8.min ≤ x.print.b0 ∧ x.print.b0 ≤ IntKind.u8.max) ∧ (IntKind.u8.min ≤ x.print.b1 ∧ x.print.b1 ≤ IntKind.u8.max) ∧ (IntKind.u8.min ≤ x.print.b2 ∧ x.print.b2 ≤ IntKind.u8.max) ∧ (IntKind.u8.min ≤ x.print.b3 ∧ x.print.b3 ≤ IntKind.u8.max) ∧ (IntKind.u8.min ≤ x.print.b4 ∧ x.print.b4 ≤ IntKind.u8.max) ∧ (IntKind.u8.min ≤ x.print.b5 ∧ x.print.b5 ≤ IntKind.u8.max) ∧ (IntKind.u8.min ≤ x.print.b6 ∧ x.print.b6 ≤ IntKind.u8.max) ∧ (IntKind.u8.min ≤ x.print.b7 ∧ x.print.b7 ≤ IntKind.u8.max) ∧ (IntKind.u8.min ≤ x.print.b8 ∧ x.print.b8 ≤ IntKind.u8.max) ∧ (IntKind.u8.min ≤ x.print.b9 ∧ x.print.b9 ≤ IntKind.u8.max) ∧ (IntKind.u8.min ≤ x.print.b10 ∧ x.print.b10 ≤ IntKind.u8.max) ∧ (IntKind.u8.min ≤ x.print.b11 ∧ x.print.b11 ≤ IntKind.u8.max) ∧ (IntKind.u8.min ≤ x.print.b12 ∧ x.print.b12 ≤ IntKind.u8.max) ∧ (IntKind.u8.min ≤ x.print.b13 ∧ x.print.b13 ≤ IntKind.u8.max) ∧ (IntKind.u8.min ≤ x.print.b14 ∧ x.print.b14 ≤ IntKind.u8.max) ∧ (IntKind.u8.min ≤ x.print.b15 ∧ x.print.b15 ≤ IntKind.u8.max) ∧ (IntKind.u8.min ≤ x.print.b16 ∧ x.print.b16 ≤ IntKind.u8.max) ∧ (IntKind.u8.min ≤ x.print.b17 ∧ x.print.b17 ≤ IntKind.u8.max) ∧ (IntKind.u8.min ≤ x.print.b18 ∧ x.print.b18 ≤ IntKind.u8.max) ∧ (IntKind.u8.min ≤ x.print.b19 ∧ x.print.b19 ≤ IntKind.u8.max) ∧ (IntKind.u8.min ≤ x.print.b20 ∧ x.print.b20 ≤ IntKind.u8.max) ∧ (IntKind.u8.min ≤ x.print.b21 ∧ x.print.b21 ≤ IntKind.u8.max) ∧ (IntKind.u8.min ≤ x.print.b22 ∧ x.print.b22 ≤ IntKind.u8.max) ∧ (IntKind.u8.min ≤ x.print.b23 ∧ x.print.b23 ≤ IntKind.u8.max) ∧ (IntKind.u8.min ≤ x.print.b24 ∧ x.print.b24 ≤ IntKind.u8.max) ∧ (IntKind.u8.min ≤ x.print.b25 ∧ x.print.b25 ≤ IntKind.u8.max) ∧ (IntKind.u8.min ≤ x.print.b26 ∧ x.print.b26 ≤ IntKind.u8.max) ∧ (IntKind.u8.min ≤ x.print.b27 ∧ x.print.b27 ≤ IntKind.u8.max) ∧ (IntKind.u8.min ≤ x.print.b28 ∧ x.print.b28 ≤ IntKind.u8.max) ∧ (IntKind.u8.min ≤ x.print.b29 ∧ x.print.b29 ≤ IntKind.u8.max) ∧ (IntKind.u8.min ≤ x.print.b30 ∧ x.print.b30 ≤ IntKind.u8.max) ∧ (IntKind.u8.min ≤ x.print.b31 ∧ x.print.b31 ≤ IntKind.u8.max) ∧ (∀ y ∈ x.ids, wf_dig y)
def wf_sgn (x : Sgn) : Prop := (IntKind.i64.min ≤ x.index ∧ x.index ≤ IntKind.i64.max) ∧ (∀ y ∈ x.revealed, wf_dig y) ∧ (∀ y ∈ x.others, wf_dig y) ∧ (∀ y ∈ x.path, wf_dig y)
def wf_msg (x : Msg) : Prop := (IntKind.i64.min ≤ x.kind ∧ x.kind ≤ IntKind.i64.max) ∧ (∀ y ∈ x.ids, wf_dig y) ∧ (∀ y ∈ x.ranges, wf_rng y) ∧ (∀ y ∈ x.patches, wf_str y) ∧ (∀ y ∈ x.paths, wf_str y) ∧ (IntKind.i64.min ≤ x.code ∧ x.code ≤ IntKind.i64.max) ∧ (IntKind.i64.min ≤ x.sig.index ∧ x.sig.index ≤ IntKind.i64.max) ∧ (∀ y ∈ x.sig.revealed, wf_dig y) ∧ (∀ y ∈ x.sig.others, wf_dig y) ∧ (∀ y ∈ x.sig.path, wf_dig y)
def wf_ment (x : Ment) : Prop := (IntKind.i64.min ≤ x.key ∧ x.key ≤ IntKind.i64.max)
def wf_sexp (_ : Sx) : Prop := True
def wfE : (e : El) → ty e → Prop
  | .str, x => wf_str x
  | .u8, x => wf_u8 x
  | .dig, x => wf_dig x
  | .rng, x => wf_rng x
  | .sgn, x => wf_sgn x
  | .msg, x => wf_msg x
  | .ment, x => wf_ment x
  | .sexp, x => wf_sexp x
def wfL : (L : List Lf) → prodL L → Prop
  | [], _ => True
  | .int k :: r, g => (k.min ≤ g.1 ∧ g.1 ≤ k.max) ∧ wfL r g.2
  | .sl e :: r, g => (∀ x ∈ g.1, wfE e x) ∧ wfL r g.2
  | .bool :: r, g => wfL r g.2
  | .str :: r, g => wfL r g.2
  | .cst :: r, g => wfL r g.2
theorem wf_mk : ∀ (e : El) (g : prodL (lvs e)), wfL (lvs e) g → wfE e (mkE e g)
  | .str, _, _ => trivial
  | .u8, _, h => h.1
  | .dig, _, h => ⟨h.1, h.2.1, h.2.2.1, h.2.2.2.1, h.2.2.2.2.1, h.2.2.2.2.2.1, h.2.2.2.2.2.2.1, h.2.2.2.2.2.2.2.1, h.2.2.2.2.2.2.2.2.1, h.2.2.2.2.2.2.2.2.2.1, h.2.2.2.2.2.2.2.2.2.2.1, h.2.2.2.2.2.2.2.2.2.2.2.1, h.2.2.2.2.2.2.2.2.2.2.2.2.1, h.2.2.2.2.2.2.2.2.2.2.2.2.2.1, h.2.2.2.2.2.2.2.2.2.2.2.2.2.2.1, h.2.2.2.2.2.2.2.2.2.2.2.2.2.2.2.1, h.2.2.2.2.2.2.2.2.2.2.2.2.2.2.2.2.1, h.2.2.2.2.2.2.2.2.2.2.2.2.2.2.2.2.2.1, h.2.2.2.2.2.2.2.2.2.2.2.2.2.2.2.2.2.2.1, h.2.2.2.2.2.2.2.2.2.2.2.2.2.2.2.2.2.2.2.1, h.2.2.2.2.2.2.2.2.2.2.2.2.2.2.2.2.2.2.2.2.1, h.2.2.2.2.2.2.2.2.2.2.2.2.2.2.2.2.2.2.2.2.2.1, h.2.2.2.2.2.2.2.2.2.2.2.2.2.2.2.2.2.2.2.2.2.2.1, h.2.2.2.2.2.2.2.2.2.2.2.2.2.2.2.2.2.2.2.2.2.2.2.1, h.2.2.2.2.2.2.2.2.2.2.2.2.2.2.2.2.2.2.2.2.2.2.2.2.1, h.2.2.2.2.2.2.2.2.2.2.2.2.2.2.2.2.2.2.2.2.2.2.2.2.2.1, h.2.2.2.2.2.2.2.2.2.2.2.2.2.2.2.2.2.2.2.2.2.2.2.2.2.2.1, h.2.2.2.2.2.2.2.2.2.2.2.2.2.2.2.2.2.2.2.2.2.2.2.2.2.2.2.1, h.2.2.2.2.2.2.2.2.2.2.2.2.2.2.2.2.2.2.2.2.2.2.2.2.2.2.2.2.1, h.2.2.2.2.2.2.2.2.2.2.2.2.2.2.2.2.2.2.2.2.2.2.2.2.2.2.2.2.2.1, h.2.2.2.2.2.2.2.2.2.2.2.2.2.2.2.2.2.2.2.2.2.2.2.2.2.2.2.2.2.2.1, h.2.2.2.2.2.2.2.2.2.2.2.2.2.2.2.2.2.2.2.2.2.2.2.2.2.2.2.2.2.2.2.1⟩
  | .rng, _, h => ⟨h.1, h.2.1, h.2.2.1, h.2.2.2.1, h.2.2.2.2.1, h.2.2.2.2.2.1, h.2.2.2.2.2.2.1, h.2.2.2.2.2.2.2.1, h.2.2.2.2.2.2.2.2.1, h.2.2.2.2.2.2.2.2.2.1, h.2.2.2.2.2.2.2.2.2.2.1, h.2.2.2.2.2.2.2.2.2.2.2.1, h.2.2.2.2.2.2.2.2.2.2.2.2.1, h.2.2.2.2.2.2.2.2.2.2.2.2.2.1, h.2.2.2.2.2.2.2.2.2.2.2.2.2.2.1, h.2.2.2.2.2.2.2.2.2.2.2.2.2.2.2.1, h.2.2.2.2.2.2.2.2.2.2.2.2.2.2.2.2.1, h.2.2.2.2.2.2.2.2.2.2.2.2.2.2.2.2.2.1, h.2.2.2.2.2.2.2.2.2.2.2.2.2.2.2.2.2.2.1, h.2.2.2.2.2.2.2.2.2.2.2.2.2.2.2.2.2.2.2.1, h.2.2.2.2.2.2.2.2.2.2.2.2.2.2.2.2.2.2.2.2.1, h.2.2.2.2.2.2.2.2.2.2.2.2.2.2.2.2.2.2.2.2.2.1, h.2.2.2.2.2.2.2.2.2.2.2.2.2.2.2.2.2.2.2.2.2.2.1, h.2.2.2.2.2.2.2.2.2.2.2.2.2.2.2.2.2.2.2.2.2.2.2.1, h.2.2.2.2.2.2.2.2.2.2.2.2.2.2.2.2.2.2.2.2.2.2.2.2.1, h.2.2.2.2.2.2.2.2.2.2.2.2.2.2.2.2.2.2.2.2.2.2.2.2.2.1, h.2.2.2.2.2.2.2.2.2.2.2.2.2.2.2.2.2.2.2.2.2.2.2.2.2.2.1, h.2.2.2.2.2.2.2.2.2.2.2.2.2.2.2.2.2.2.2.2.2.2.2.2.2.2.2.1, h.2.2.2.2.2.2.2.2.2.2.2.2.2.2.2.2.2.2.2.2.2.2.2.2.2.2.2.2.1, h.2.2.2.2.2.2.2.2.2.2.2.2.2.2.2.2.2.2.2.2.2.2.2.2.2.2.2.2.2.1, h.2.2.2.2.2.2.2.2.2.2.2.2.2.2.2.2.2.2.2.2.2.2.2.2.2.2.2.2.2.2.1, h.2.2.2.2.2.2.2.2.2.2.2.2.2.2.2.2.2.2.2.2.2.2.2.2.2.2.2.2.2.2.2.1, h.2.2.2.2.2.2.2.2.2.2.2.2.2.2.2.2.2.2.2.2.2.2.2.2.2.2.2.2.2.2.2.2.1, h.2.2.2.2.2.2.2.2.2.2.2.2.2.2.2.2.2.2.2.2.2.2.2.2.2.2.2.2.2.2.2.2.2.1, h.2.2.2.2.2.2.2.2.2.2.2.2.2.2.2.2.2.2.2.2.2.2.2.2.2.2.2.2.2.2.2.2.2.2.1, h.2.2.2.2.2.2.2.2.2.2.2.2.2.2.2.2.2.2.2.2.2.2.2.2.2.2.2.2.2.2.2.2.2.2.2.1, h.2.2.2.2.2.2.2.2.2.2.2.2.2.2.2.2.2.2.2.2.2.2.2.2.2.2.2.2.2.2.2.2.2.2.2.2.1, h.2.2.2.2.2.2.2.2.2.2.2.2.2.2.2.2.2.2.2.2.2.2.2.2.2.2.2.2.2.2.2.2.2.2.2.2.2.1, h.2.2.2.2.2.2.2.2.2.2.2.2.2.2.2.2.2.2.2.2.2.2.2.2.2.2.2.2.2.2.2.2.2.2.2.2.2.2.1, h.2.2.2.2.2.2.2.2.2.2.2.2.2.2.2.2.2.2.2.2.2.2.2.2.2.2.2.2.2.2.2.2.2.2.2.2.2.2.2.1, h.2.2.2.2.2.2.2.2.2.2.2.2.2.2.2.2.2.2.2.2.2.2.2.2.2.2.2.2.2.2.2.2.2.2.2.2.2.2.2.2.1, h.2.2.2.2.2.2.2.2.2.2.2.2.2.2.2.2.2.2.2.2.2.2.2.2.2.2.2.2.2.2.2.2.2.2.2.2.2.2.2.2.2.1, h.2.2.2.2.2.2.2.2.2.2.2.2.2.2.2.2.2.2.2.2.2.2.2.2.2.2.2.2.2.2.2.2.2.2.2.2.2.2.2.2.2.2.1, h.2.2.2.2.2.2.2.2.2.2.2.2.2.2.2.2.2.2.2.2.2.2.2.2.2.2.2.2.2.2.2.2.2.2.2.2.2.2.2.2.2.2.2.1, h.2.2.2.2.2.2.2.2.2.2.2.2.2.2.2.2.2.2.2.2.2.2.2.2.2.2.2.2.2.2.2.2.2.2.2.2.2.2.2.2.2.2.2.2.1, h.2.2.2.2.2.2.2.2.2.2.2.2.2.2.2.2.2.2.2.2.2.2.2.2.2.2.2.2.2.2.2.2.2.2.2.2.2.2.2.2.2.2.2.2.2.1, h.2.2.2.2.2.2.2.2.2.2.2.2.2.2.2.2.2.2.2.2.2.2.2.2.2.2.2.2.2.2.2.2.2.2.2.2.2.2.2.2.2.2.2.2.2.2.1, h.2.2.2.2.2.2.2.2.2.2.2.2.2.2.2.2.2.2.2.2.2.2.2.2.2.2.2.2.2.2.2.2.2.2.2.2.2.2.2.2.2.2.2.2.2.2.2.1, h.2.2.2.2.2.2.2.2.2.2.2.2.2.2.2.2.2.2.2.2.2.2.2.2.2.2.2.2.2.2.2.2.2.2.2.2.2.2.2.2.2.2.2.2.2.2.2.2.1, h.2.2.2.2.2.2.2.2.2.2.2.2.2.2.2.2.2.2.2.2.2.2.2.2.2.2.2.2.2.2.2.2.2.2.2.2.2.2.2.2.2.2.2.2.2.2.2.2.2.1, h.2.2.2.2.2.2.2.2.2.2.2.2.2.2.2.2.2.2.2.2.2.2.2.2.2.2.2.2.2.2.2.2.2.2.2.2.2.2.2.2.2.2.2.2.2.2.2.2.2.2.1, h.2.2.2.2.2.2.2.2.2.2.2.2.2.2.2.2.2.2.2.2.2.2.2.2.2.2.2.2.2.2.2.2.2.2.2.2.2.2.2.2.2.2.2.2.2.2.2.2.2.2.2.1, h.2.2.2.2.2.2.2.2.2.2.2.2.2.2.2.2.2.2.2.2.2.2.2.2.2.2.2.2.2.2.2.2.2.2.2.2.2.2.2.2.2.2.2.2.2.2.2.2.2.2.2.2.1, h.2.2.2.2.2.2.2.2.2.2.2.2.2.2.2.2.2.2.2.2.2.2.2.2.2.2.2.2.2.2.2.2.2.2.2.2.2.2.2.2.2.2.2.2.2.2.2.2.2.2.2.2.2.1, h.2.2.2.2.2.2.2.2.2.2.2.2.2.2.2.2.2.2.2.2.2.2.2.2.2.2.2.2.2.2.2.2.2.2.2.2.2.2.2.2.2.2.2.2.2.2.2.2.2.2.2.2.2.2.1, h.2.2.2.2.2.2.2.2.2.2.2.2.2.2.2.2.2.2.2.2.2.2.2.2.2.2.2.2.2.2.2.2.2.2.2.2.2.2.2.2.2.2.2.2.2.2.2.2.2.2.2.2.2.2.2.1, h.2.2.2.2.2.2.2.2.2.2.2.2.2.2.2.2.2.2.2.2.2.2.2.2.2.2.2.2.2.2.2.2.2.2.2.2.2.2.2.2.2.2.2.2.2.2.2.2.2.2.2.2.2.2.2.2.1, h.2.2.2.2.2.2.2.2.2.2.2.2.2.2.2.2.2.2.2.2.2.2.2.2.2.2.2.2.2.2.2.2.2.2.2.2.2.2.2.2.2.2.2.2.2.2.2.2.2.2.2.2.2.2.2.2.2.1, h.2.2.2.2.2.2.2.2.2.2.2.2.2.2.2.2.2.2.2.2.2.2.2.2.2.2.2.2.2.2.2.2.2.2.2.2.2.2.2.2.2.2.2.2.2.2.2.2.2.2.2.2.2.2.2.2.2.2.1, h.2.2.2.2.2.2.2.2.2.2.2.2.2.2.2.2.2.2.2.2.2.2.2.2.2.2.2.2.2.2.2.2.2.2.2.2.2.2.2.2.2.2.2.2.2.2.2.2.2.2.2.2.2.2.2.2.2.2.2.1, h.2.2.2.2.2.2.2.2.2.2.2.2.2.2.2.2.2.2.2.2.2.2.2.2.2.2.2.2.2.2.2.2.2.2.2.2.2.2.2.2.2.2.2.2.2.2.2.2.2.2.2.2.2.2.2.2.2.2.2.2.1, h.2.2.2.2.2.2.2.2.2.2.2.2.2.2.2.2.2.2.2.2.2.2.2.2.2.2.2.2.2.2.2.2.2.2.2.2.2.2.2.2.2.2.2.2.2.2.2.2.2.2.2.2.2.2.2.2.2.2.2.2.2.1, h.2.2.2.2.2.2.2.2.2.2.2.2.2.2.2.2.2.2.2.2.2.2.2.2.2.2.2.2.2.2.2.2.2.2.2.2.2.2.2.2.2.2.2.2.2.2.2.2.2.2.2.2.2.2.2.2.2.2.2.2.2.2.1, h.2.2.2.2.2.2.2.2.2.2.2.2.2.2.2.2.2.2.2.2.2.2.2.2.2.2.2.2.2.2.2.2.2.2.2.2.2.2.2.2.2.2.2.2.2.2.2.2.2.2.2.2.2.2.2.2.2.2.2.2.2.2.2.1, h.2.2.2.2.2.2.2.2.2.2.2.2.2.2.2.2.2.2.2.2.2.2.2.2.2.2.2.2.2.2.2.2.2.2.2.2.2.2.2.2.2.2.2.2.2.2.2.2.2.2.2.2.2.2.2.2.2.2.2.2.2.2.2.2.1, h.2.2.2.2.2.2.2.2.2.2.2.2.2.2.2.2.2.2.2.2.2.2.2.2.2.2.2.2.2.2.2.2.2.2.2.2.2.2.2.2.2.2.2.2.2.2.2.2.2.2.2.2.2.2.2.2.2.2.2.2.2.2.2.2.2.1, h.2.2.2.2.2.2.2.2.2.2.2.2.2.2.2.2.2.2.2.2.2.2.2.2.2.2.2.2.2.2.2.2.2.2.2.2.2.2.2.2.2.2.2.2.2.2.2.2.2.2.2.2.2.2.2.2.2.2.2.2.2.2.2.2.2.2.1, h.2.2.2.2.2.2.2.2.2.2.2.2.2.2.2.2.2.2.2.2.2.2.2.2.2.2.2.2.2.2.2.2.2.2.2.2.2.2.2.2.2.2.2.2.2.2.2.2.2.2.2.2.2.2.2.2.2.2.2.2.2.2.2.2.2.2.2.1, h.2.2.2.2.2.2.2.2.2.2.2.2.2.2.2.2.2.2.2.2.2.2.2.2.2.2.2.2.2.2.2.2.2.2.2.2.2.2.2.2.2.2.2.2.2.2.2.2.2.2.2.2.2.2.2.2.2.2.2.2.2.2.2.2.2.2.2.2.1, h.2.2.2.2.2.2.2.2.2.2.2.2.2.2.2.2.2.2.2.2.2.2.2.2.2.2.2.2.2.2.2.2.2.2.2.2.2.2.2.2.2.2.2.2.2.2.2.2.2.2.2.2.2.2.2.2.2.2.2.2.2.2.2.2.2.2.2.2.2.1, h.2.2.2.2.2.2.2.2.2.2.2.2.2.2.2.2.2.2.2.2.2.2.2.2.2.2.2.2.2.2.2.2.2.2.2.2.2.2.2.2.2.2.2.2.2.2.2.2.2.2.2.2.2.2.2.2.2.2.2.2.2.2.2.2.2.2.2.2.2.2.1, h.2.2.2.2.2.2.2.2.2.2.2.2.2.2.2.2.2.2.2.2.2.2.2.2.2.2.2.2.2.2.2.2.2.2.2.2.2.2.2.2.2.2.2.2.2.2.2.2.2.2.2.2.2.2.2.2.2.2.2.2.2.2.2.2.2.2.2.2.2.2.2.1, h.2.2.2.2.2.2.2.2.2.2.2.2.2.2.2.2.2.2.2.2.2.2.2.2.2.2.2.2.2.2.2.2.2.2.2.2.2.2.2.2.2.2.2.2.2.2.2.2.2.2.2.2.2.2.2.2.2.2.2.2.2.2.2.2.2.2.2.2.2.2.2.2.1, h.2.2.2.2.2.2.2.2.2.2.2.2.2.2.2.2.2.2.2.2.2.2.2.2.2.2.2.2.2.2.2.2.2.2.2.2.2.2.2.2.2.2.2.2.2.2.2.2.2.2.2.2.2.2.2.2.2.2.2.2.2.2.2.2.2.2.2.2.2.2.2.2.2.1, h.2.2.2.2.2.2.2.2.2.2.2.2.2.2.2.2.2.2.2.2.2.2.2.2.2.2.2.2.2.2.2.2.2.2.2.2.2.2.2.2.2.2.2.2.2.2.2.2.2.2.2.2.2.2.2.2.2.2.2.2.2.2.2.2.2.2.2.2.2.2.2.2.2.2.1, h.2.2.2.2.2.2.2.2.2.2.2.2.2.2.2.2.2.2.2.2.2.2.2.2.2.2.2.2.2.2.2.2.2.2.2.2.2.2.2.2.2.2.2.2.2.2.2.2.2.2.2.2.2.2.2.2.2.2.2.2.2.2.2.2.2.2.2.2.2.2.2.2.2.2.2.1, h.2.2.2.2.2.2.2.2.2.2.2.2.2.2.2.2.2.2.2.2.2.2.2.2.2.2.2.2.2.2.2.2.2.2.2.2.2.2.2.2.2.2.2.2.2.2.2.2.2.2.2.2.2.2.2.2.2.2.2.2.2.2.2.2.2.2.2.2.2.2.2.2.2.2.2.2.1, h.2.2.2.2.2.2.2.2.2.2.2.2.2.2.2.2.2.2.2.2.2.2.2.2.2.2.2.2.2.2.2.2.2.2.2.2.2.2.2.2.2.2.2.2.2.2.2.2.2.2.2.2.2.2.2.2.2.2.2.2.2.2.2.2.2.2.2.2.2.2.2.2.2.2.2.2.2.1, h.2.2.2.2.2.2.2.2.2.2.2.2.2.2.2.2.2.2.2.2.2.2.2.2.2.2.2.2.2.2.2.2.2.2.2.2.2.2.2.2.2.2.2.2.2.2.2.2.2.2.2.2.2.2.2.2.2.2.2.2.2.2.2.2.2.2.2.2.2.2.2.2.2.2.2.2.2.2.1, h.2.2.2.2.2.2.2.2.2.2.2.2.2.2.2.2.2.2.2.2.2.2.2.2.2.2.2.2.2.2.2.2.2.2.2.2.2.2.2.2.2.2.2.2.2.2.2.2.2.2.2.2.2.2.2.2.2.2.2.2.2.2.2.2.2.2.2.2.2.2.2.2.2.2.2.2.2.2.2.1, h.2.2.2.2.2.2.2.2.2.2.2.2.2.2.2.2.2.2.2.2.2.2.2.2.2.2.2.2.2.2.2.2.2.2.2.2.2.2.2.2.2.2.2.2.2.2.2.2.2.2.2.2.2.2.2.2.2.2.2.2.2.2.2.2.2.2.2.2.2.2.2.2.2.2.2.2.2.2.2.2.1, h.2.2.2.2.2.2.2.2.2.2.2.2.2.2.2.2.2.2.2.2.2.2.2.2.2.2.2.2.2.2.2.2.2.2.2.2.2.2.2.2.2.2.2.2.2.2.2.2.2.2.2.2.2.2.2.2.2.2.2.2.2.2.2.2.2.2.2.2.2.2.2.2.2.2.2.2.2.2.2.2.2.1, h.2.2.2.2.2.2.2.2.2.2.2.2.2.2.2.2.2.2.2.2.2.2.2.2.2.2.2.2.2.2.2.2.2.2.2.2.2.2.2.2.2.2.2.2.2.2.2.2.2.2.2.2.2.2.2.2.2.2.2.2.2.2.2.2.2.2.2.2.2.2.2.2.2.2.2.2.2.2.2.2.2.2.1, h.2.2.2.2.2.2.2.2.2.2.2.2.2.2.2.2.2.2.2.2.2.2.2.2.2.2.2.2.2.2.2.2.2.2.2.2.2.2.2.2.2.2.2.2.2.2.2.2.2.2.2.2.2.2.2.2.2.2.2.2.2.2.2.2.2.2.2.2.2.2.2.2.2.2.2.2.2.2.2.2.2.2.2.1, h.2.2.2.2.2.2.2.2.2.2.2.2.2.2.2.2.2.2.2.2.2.2.2.2.2.2.2.2.2.2.2.2.2.2.2.2.2.2.2.2.2.2.2.2.2.2.2.2.2.2.2.2.2.2.2.2.2.2.2.2.2.2.2.2.2.2.2.2.2.2.2.2.2.2.2.2.2.2.2.2.2.2.2.2.1, h.2.2.2.2.2.2.2.2.2.2.2.2.2.2.2.2.2.2.2.2.2.2.2.2.2.2.2.2.2.2.2.2.2.2.2.2.2.2.2.2.2.2.2.2.2.2.2.2.2.2.2.2.2.2.2.2.2.2.2.2.2.2.2.2.2.2.2.2.2.2.2.2.2.2.2.2.2.2.2.2.2.2.2.2.2.1, h.2.2.2.2.2.2.2.2.2.2.2.2.2.2.2.2.2.2.2.2.2.2.2.2.2.2.2.2.2.2.2.2.2.2.2.2.2.2.2.2.2.2.2.2.2.2.2.2.2.2.2.2.2.2.2.2.2.2.2.2.2.2.2.2.2.2.2.2.2.2.2.2.2.2.2.2.2.2.2.2.2.2.2.2.2.2.1, h.2.2.2.2.2.2.2.2.2.2.2.2.2.2.2.2.2.2.2.2.2.2.2.2.2.2.2.2.2.2.2.2.2.2.2.2.2.2.2.2.2.2.2.2.2.2.2.2.2.2.2.2.2.2.2.2.2.2.2.2.2.2.2.2.2.2.2.2.2.2.2.2.2.2.2.2.2.2.2.2.2.2.2.2.2.2.2.1, h.2.2.2.2.2.2.2.2.2.2.2.2.2.2.2.2.2.2.2.2.2.2.2.2.2.2.2.2.2.2.2.2.2.2.2.2.2.2.2.2.2.2.2.2.2.2.2.2.2.2.2.2.2.2.2.2.2.2.2.2.2.2.2.2.2.2.2.2.2.2.2.2.2.2.2.2.2.2.2.2.2.2.2.2.2.2.2.2.1, h.2.2.2.2.2.2.2.2.2.2.2.2.2.2.2.2.2.2.2.2.2.2.2.2.2.2.2.2.2.2.2.2.2.2.2.2.2.2.2.2.2.2.2.2.2.2.2.2.2.2.2.2.2.2.2.2.2.2.2.2.2.2.2.2.2.2.2.2.2.2.2.2.2.2.2.2.2.2.2.2.2.2.2.2.2.2.2.2.2.1, h.2.2.2.2.2.2.2.2.2.2.2.2.2.2.2.2.2.2.2.2.2.2.2.2.2.2.2.2.2.2.2.2.2.2.2.2.2.2.2.2.2.2.2.2.2.2.2.2.2.2.2.2.2.2.2.2.2.2.2.2.2.2.2.2.2.2.2.2.2.2.2.2.2.2.2.2.2.2.2.2.2.2.2.2.2.2.2.2.2.2.1, h.2.2.2.2.2.2.2.2.2.2.2.2.2.2.2.2.2.2.2.2.2.2.2.2.2.2.2.2.2.2.2.2.2.2.2.2.2.2.2.2.2.2.2.2.2.2.2.2.2.2.2.2.2.2.2.2.2.2.2.2.2.2.2.2.2.2.2.2.2.2.2.2.2.2.2.2.2.2.2.2.2.2.2.2.2.2.2.2.2.2.2.1, h.2.2.2.2.2.2.2.2.2.2.2.2.2.2.2.2.2.2.2.2.2.2.2.2.2.2.2.2.2.2.2.2.2.2.2.2.2.2.2.2.2.2.2.2.2.2.2.2.2.2.2.2.2.2.2.2.2.2.2.2.2.2.2.2.2.2.2.2.2.2.2.2.2.2.2.2.2.2.2.2.2.2.2.2.2.2.2.2.2.2.2.2.1, h.2.2.2.2.2.2.2.2.2.2.2.2.2.2.2.2.2.2.2.2.2.2.2.2.2.2.2.2.2.2.2.2.2.2.2.2.2.2.2.2.2.2.2.2.2.2.2.2.2.2.2.2.2.2.2.2.2.2.2.2.2.2.2.2.2.2.2.2.2.2.2.2.2.2.2.2.2.2.2.2.2.2.2.2.2.2.2.2.2.2.2.2.2.1, h.2.2.2.2.2.2.2.2.2.2.2.2.2.2.2.2.2.2.2.2.2.2.2.2.2.2.2.2.2.2.2.2.2.2.2.2.2.2.2.2.2.2.2.2.2.2.2.2.2.2.2.2.2.2.2.2.2.2.2.2.2.2.2.2.2.2.2.2.2.2.2.2.2.2.2.2.2.2.2.2.2.2.2.2.2.2.2.2.2.2.2.2.2.2.1, h.2.2.2.2.2.2.2.2.2.2.2.2.2.2.2.2.2.2.2.2.2.2.2.2.2.2.2.2.2.2.2.2.2.2.2.2.2.2.2.2.2.2.2.2.2.2.2.2.2.2.2.2.2.2.2.2.2.2.2.2.2.2.2.2.2.2.2.2.2.2.2.2.2.2.2.2.2.2.2.2.2.2.2.2.2.2.2.2.2.2.2.2.2.2.2.1, h.2.2.2.2.2.2.2.2.2.2.2.2.2.2.2.2.2.2.2.2.2.2.2.2.2.2.2.2.2.2.2.2.2.2.2.2.2.2.2.2.2.2.2.2.2.2.2.2.2.2.2.2.2.2.2.2.2.2.2.2.2.2.2.2.2.2.2.2.2.2.2.2.2.2.2.2.2.2.2.2.2.2.2.2.2.2.2.2.2.2.2.2.2.2.2.2.1, h.2.2.2.2.2.2.2.2.2.2.2.2.2.2.2.2.2.2.2.2.2.2.2.2.2.2.2.2.2.2.2.2.2.2.2.2.2.2.2.2.2.2.2.2.2.2.2.2.2.2.2.2.2.2.2.2.2.2.2.2.2.2.2.2.2.2.2.2.2.2.2.2.2.2.2.2.2.2.2.2.2.2.2.2.2.2.2.2.2.2.2.2.2.2.2.2.2.1⟩
  | .sgn, _, h => ⟨h.1, h.2.1, h.2.2.1, h.2.2.2.1⟩
  | .msg, _, h => ⟨h.1, h.2.1, h.2.2.1, h.2.2.2.1, h.2.2.2.2.1, h.2.2.2.2.2.1, h.2.2.2.2.2.2.1, h.2.2.2.2.2.2.2.1, h.2.2.2.2.2.2.2.2.1, h.2.2.2.2.2.2.2.2.2.1⟩
  | .ment, _, h => h.1
  | .sexp, _, _ => trivial
end Go.Proofs.YtoclmkbjgmgekaaDoor
namespace Go.Proofs.YtoclmkbjgmgekaaDoor
set_option linter.unusedVariables false
set_option linter.unusedSimpArgs false
set_option linter.unusedSectionVars false
open Go.RowKit Go.ChangeShapes
variable {P : Program}
mutual
inductive Rd (w : World) : T → Value → Prop where
  | int (k : IntKind) (n : Int) : Rd w (.int k n) (.int k n)
  | bool (b : Bool) : Rd w (.bool b) (.bool b)
  | str (s : ByteArray) : Rd w (.str s) (.string s)
  | cst (v : Value) : v.oneCell' = true → Rd w (.cst v) v
  | sl0 (e : El) (A : Option Addr) (c : Nat) : c ≤ maxLen → Rd w (.sl false e []) (.slice A 0 c)
  | sl (e : El) (l : List (ty e)) (b off : Nat) (cs : List T) (c : Nat) : l.length ≤ c → c ≤ maxLen → RdB w b cs → (cs.drop off).take (l.length * sz e) = encs e l → Rd w (.sl false e l) (.slice (some ⟨b, off, none⟩) l.length c)
inductive RdB (w : World) : Nat → List T → Prop where
  | mk (b : Nat) (cs : List T) (blk : Array Value) (E : TypeId) (fr : Nat × Nat) : w.heap[b]? = some (.cells blk E fr) → (∀ n : Nat, cs ≠ [.tu [.int .i64 (n : Int)]]) → cs.length ≤ blk.size → (∀ (j : Nat) (u : T) (x : Value), cs[j]? = some u → blk[j]? = some x → u.pure1 = true → Rd w u x) → RdB w b cs
  | ex (b n : Nat) (blk : Array Value) (E : TypeId) (fr : Nat × Nat) : w.heap[b]? = some (.cells blk E fr) → blk.size = n → 0 < n → RdB w b [.tu [.int .i64 (n : Int)]]
end
def g0 (P : Program) (w : World) : G P := ⟨.mk, RdB w, fun _ _ => none, fun _ _ => False, fun _ => False⟩
theorem Rd.R {P : Program} {w : World} {u : T} {x : Value} (h : Rd w u x) : R (g0 P w) u x ∧ x.oneCell' = true := by
  cases h with
  | int k n => exact ⟨.int k n, rfl⟩
  | bool b => exact ⟨.bool b, rfl⟩
  | str s => exact ⟨.str s, rfl⟩
  | cst v h => exact ⟨.cst _, h⟩
  | sl0 e A c h => exact ⟨.sl false e [] A c (Nat.zero_le _) h (by simp) (by simp), rfl⟩
  | sl e l b off cs c h1 h2 h3 h4 => exact ⟨.sl false e l _ c h1 h2 (by simp) fun _ => ⟨b, off, cs, rfl, h3, h4⟩, rfl⟩
theorem good0 {P : Program} (w : World) (hl : LaidG (RdB w)) : Good (g0 P w) [] w := by
  refine ⟨fun b cs h => ?_, fun k o h => by simp at h, fun k k' o o' b h => by simp at h, fun k v oi h => by simp [g0] at h, fun _ _ h => h.elim, fun _ h => h.elim, hl⟩
  cases h with
  | ex _ n blk E fr h1 h2 h3 =>
    refine ⟨blk, E, fr, h1, fun m e => ?_, by simp; omega, fun j u hj hp => ?_⟩
    · simp only [List.cons.injEq, T.tu.injEq, T.int.injEq, true_and, and_true] at e
      omega
    · cases j with
      | zero => simp at hj; subst hj; simp [T.pure1] at hp
      | succ j => simp at hj
  | mk _ _ blk E fr h1 hne h2 h3 =>
    refine ⟨blk, E, fr, h1, fun n e => absurd e (hne n), h2, fun j u hj hp => ?_⟩
    have hlt : j < blk.size := Nat.lt_of_lt_of_le (List.getElem?_eq_some_iff.1 hj).1 h2
    have h := (h3 j u _ hj (Array.getElem?_eq_getElem hlt) hp).R (P := P)
    exact ⟨_, Array.getElem?_eq_getElem hlt, h.2, h.1⟩
def RdL (w : World) : List T → List Value → Prop
  | [], [] => True
  | u :: us, x :: xs => Rd w u x ∧ RdL w us xs
  | _, _ => False
theorem RdL.len {w : World} : ∀ {us : List T} {xs : List Value}, RdL w us xs → us.length = xs.length
  | [], [], _ => rfl
  | _ :: us, _ :: xs, h => by simp [RdL.len (us := us) (xs := xs) h.2]
  | [], _ :: _, h => h.elim
  | _ :: _, [], h => h.elim
theorem RdL.append {w : World} : ∀ {us us' : List T} {xs xs' : List Value}, RdL w us xs → RdL w us' xs' → RdL w (us ++ us') (xs ++ xs')
  | [], _, [], _, _, h => h
  | _ :: us, _, _ :: xs, _, h, k => ⟨h.1, RdL.append (us := us) (xs := xs) h.2 k⟩
  | [], _, _ :: _, _, h, _ => h.elim
  | _ :: _, _, [], _, h, _ => h.elim
theorem RdL.get {w : World} : ∀ {us : List T} {xs : List Value}, RdL w us xs → ∀ (i : Nat) (u : T) (x : Value), us[i]? = some u → xs[i]? = some x → Rd w u x
  | [], [], _, i, u, x, h, _ => by simp at h
  | v :: us, y :: xs, h, 0, u, x, hu, hx => by simp at hu hx; subst hu; subst hx; exact h.1
  | v :: us, y :: xs, h, i + 1, u, x, hu, hx => by simp at hu hx; exact RdL.get h.2 i u x hu hx
  | [], _ :: _, h, _, _, _, _, _ => h.elim
  | _ :: _, [], h, _, _, _, _, _ => h.elim
def appG : (L M : List Lf) → prodL L → prodL M → prodL (L ++ M)
  | [], _, _, g => g
  | _ :: r, M, g, k => (g.1, appG r M g.2 k)
theorem envT_app : ∀ (L M : List Lf) (g : prodL L) (k : prodL M), envT (L ++ M) (appG L M g k) = envT L g ++ envT M k
  | [], _, _, _ => rfl
  | a :: r, M, g, k => by simp only [List.cons_append, envT, appG, envT_app r M g.2 k]
theorem bkL_app : ∀ (L M : List Lf) (g : prodL L) (k : prodL M), bkL (L ++ M) (appG L M g k) = bkL L g + bkL M k
  | [], _, _, _ => by simp [bkL, appG]
  | a :: r, M, g, k => by
    have := bkL_app r M g.2 k
    cases a <;> simp only [List.cons_append, bkL, appG] <;> omega
theorem wfL_app : ∀ (L M : List Lf) (g : prodL L) (k : prodL M), wfL L g → wfL M k → wfL (L ++ M) (appG L M g k)
  | [], _, _, _, _, h => h
  | a :: r, M, g, k, h, h' => by
    cases a with
    | int => exact ⟨h.1, wfL_app r M g.2 k h.2 h'⟩
    | sl => exact ⟨h.1, wfL_app r M g.2 k h.2 h'⟩
    | bool => exact wfL_app r M g.2 k h h'
    | str => exact wfL_app r M g.2 k h h'
    | cst => exact wfL_app r M g.2 k h h'
theorem envT_len : ∀ (L : List Lf) (g : prodL L), (envT L g).length = L.length
  | [], _ => rfl
  | _ :: r, g => by simp [envT, envT_len r g.2]
def flatFs (F : TypeId → Option (List Lf)) : Nat → List (Nat × TypeId) → Option (List Lf)
  | _, [] => some []
  | o, (off, t) :: r => match decide (off = o), F t with
    | true, some L => match flatFs F (o + L.length) r with
      | some M => some (L ++ M)
      | none => none
    | _, _ => none
def flatL (D : TD) : Nat → TypeId → Option (List Lf)
  | 0, _ => none
  | n + 1, t => match tyOf D t with
    | some ti => match ti.srt with
      | .int k => some [.int k]
      | .bool => some [.bool]
      | .string => some [.str]
      | .slice e => match tyOf D e with
        | some te => match te.el with
          | some k => some [.sl k]
          | none => none
        | none => none
      | .struct fs => match flatFs (flatL D n) 0 fs with
        | some L => match decide (L.length = ti.size) with
          | true => some L
          | false => none
        | none => none
      | .array m e => match tyOf D e with
        | some te => match flatFs (flatL D n) 0 ((List.range' 0 m).map fun i => (i * te.size, e)) with
          | some L => match decide (L.length = ti.size) with
            | true => some L
            | false => none
          | none => none
        | none => none
      | _ => none
    | none => none
abbrev KindsOk (D : TD) : Prop := ∀ t te e, tyOf D t = some te → te.el = some e → ∃ m, flatL D m t = some (lvs e)
section
variable {P : Program} {D : TD} {w : World} {H : Type} {en : TypeId × Value → H}
theorem mapM_get {α β : Type} {f : α → Option β} {l : List α} {r : List β} (h : l.mapM f = some r) : r.length = l.length ∧ ∀ (i : Nat) (x : α) (y : β), l[i]? = some x → r[i]? = some y → f x = some y :=
  ⟨mapM_some_length h, fun i x y hx hy => by rw [mapM_some_get h i x hx, hy]⟩
theorem cellsOf_ti {t : TypeId} {ti : TI} (h : TIok P t ti) : P.cellsOf t = ti.size := by
  obtain ⟨i, h1, h2, _⟩ := h.info
  simp [Program.cellsOf, h1, h2]
theorem cells_at {b : Nat} {a : Addr} {n : Nat} {l : List Value} (h : w.cells? b a n = some l) : l.length = n ∧ ∀ (i : Nat) (x : Value), l[i]? = some x → w.cell? (a.add i) = some x := by
  unfold World.cells? at h
  split at h
  · obtain ⟨h1, h2⟩ := mapM_get h
    refine ⟨by simpa using h1, fun i x hx => ?_⟩
    have hi : i < n := by have := (List.getElem?_eq_some_iff.1 hx).1; simpa [h1] using this
    exact h2 i i x (by simp [hi]) hx
  · cases h
theorem encs_split {e : El} {l : List (ty e)} {J : Nat} {u : T} (h : (encs e l)[J]? = some u) : ∃ i j x, J = i * sz e + j ∧ j < sz e ∧ l[i]? = some x ∧ (enc e x)[j]? = some u := by
  have hp := sz_pos e
  have hlt : J < l.length * sz e := by have := (List.getElem?_eq_some_iff.1 h).1; rwa [encs_len] at this
  have hi : J / sz e < l.length := by rw [Nat.div_lt_iff_lt_mul hp]; exact hlt
  have hj := Nat.mod_lt J hp
  have hJ : J = J / sz e * sz e + J % sz e := by rw [Nat.mul_comm]; exact (Nat.div_add_mod J (sz e)).symm
  refine ⟨J / sz e, J % sz e, l[J / sz e], hJ, hj, List.getElem?_eq_getElem hi, ?_⟩
  rw [← encs_get (List.getElem?_eq_getElem hi) hj, ← hJ]
  exact h
theorem take_len {α : Type} {l : List α} {n m : Nat} (h : (l.take n).length = m) : l.take n = l.take m := by
  rw [List.length_take] at h
  by_cases e : n ≤ l.length
  · rw [Nat.min_eq_left e] at h; rw [h]
  · rw [List.take_of_length_le (by omega), List.take_of_length_le (by omega)]
theorem flat_fields {fuel : Nat} {F : TypeId → Option (List Lf)} {cs : List Value}
    (ih : ∀ t L cs x, F t = some L → DataW.trod en P w 0 (fun _ => true) true fuel t cs = some x → ∃ g : prodL L, RdL w (envT L g) cs ∧ wfL L g ∧ bkL L g ≤ Rows.uptoBulk x.1) :
    ∀ (fs : List Field) (o : Nat) (L : List Lf) (xs : List (DataW H × List MemPlace)), flatFs F o (fs.map fun f => (f.offset, f.type)) = some L → fs.mapM (fun f => DataW.trod en P w 0 (fun _ => true) true fuel f.type ((cs.drop f.offset).take (P.cellsOf f.type))) = some xs →
      ∃ g : prodL L, RdL w (envT L g) ((cs.drop o).take L.length) ∧ wfL L g ∧ bkL L g ≤ Rows.uptoBulkAll (xs.map (·.1))
  | [], o, L, xs, h, k => by
    simp [flatFs] at h
    subst h
    exact ⟨(), by simp [envT, RdL], trivial, Nat.zero_le _⟩
  | f :: fs, o, L, xs, h, k => by
    simp only [List.map_cons, flatFs] at h
    split at h
    case h_2 => cases h
    rename_i A hd hA
    have hd := of_decide_eq_true hd
    split at h
    case h_2 => cases h
    rename_i M hM
    simp only [Option.some.injEq] at h
    subst h
    rw [List.mapM_cons] at k
    cases hx : DataW.trod en P w 0 (fun _ => true) true fuel f.type ((cs.drop f.offset).take (P.cellsOf f.type)) with
    | none => rw [hx] at k; cases k
    | some x =>
      rw [hx] at k
      cases hr : fs.mapM (fun f => DataW.trod en P w 0 (fun _ => true) true fuel f.type ((cs.drop f.offset).take (P.cellsOf f.type))) with
      | none => rw [hr] at k; cases k
      | some r =>
        rw [hr] at k
        have k : x :: r = xs := by simpa using k
        subst k
        obtain ⟨g1, a1, a2, a3⟩ := ih _ _ _ _ hA hx
        obtain ⟨g2, b1, b2, b3⟩ := flat_fields ih fs _ _ _ hM hr
        refine ⟨appG A M g1 g2, ?_, wfL_app _ _ _ _ a2 b2, ?_⟩
        · rw [envT_app, List.length_append, List.take_add, List.drop_drop]
          rw [hd, take_len (by rw [← a1.len, envT_len])] at a1
          exact a1.append b1
        · rw [bkL_app]
          simp only [List.map_cons, Rows.uptoBulkAll]
          omega
theorem flat_arr {fuel e k : Nat} {F : TypeId → Option (List Lf)} {cs : List Value}
    (ih : ∀ t L cs x, F t = some L → DataW.trod en P w 0 (fun _ => true) true fuel t cs = some x → ∃ g : prodL L, RdL w (envT L g) cs ∧ wfL L g ∧ bkL L g ≤ Rows.uptoBulk x.1) :
    ∀ (n i0 o : Nat) (L : List Lf) (ys : List (DataW H × List MemPlace)), flatFs F o ((List.range' i0 n).map fun i => (i * k, e)) = some L → ys.length = n → (∀ j, j < n → DataW.trod en P w 0 (fun _ => true) true fuel e ((cs.drop ((i0 + j) * k)).take k) = ys[j]?) →
      ∃ g : prodL L, RdL w (envT L g) ((cs.drop o).take L.length) ∧ wfL L g ∧ bkL L g ≤ Rows.uptoBulkAll (ys.map (·.1))
  | 0, _, o, L, ys, h, _, _ => by
    simp [flatFs] at h
    subst h
    exact ⟨(), by simp [envT, RdL], trivial, Nat.zero_le _⟩
  | n + 1, i0, o, L, ys, h, hl, hy => by
    simp only [List.range'_succ, List.map_cons, flatFs] at h
    split at h
    case h_2 => cases h
    rename_i A hd hA
    have hd := of_decide_eq_true hd
    split at h
    case h_2 => cases h
    rename_i M hM
    simp only [Option.some.injEq] at h
    subst h
    cases ys with
    | nil => simp at hl
    | cons x r =>
      have hx := hy 0 (Nat.zero_lt_succ n)
      simp only [Nat.add_zero, List.getElem?_cons_zero] at hx
      obtain ⟨g1, a1, a2, a3⟩ := ih _ _ _ _ hA hx
      obtain ⟨g2, b1, b2, b3⟩ := flat_arr ih n (i0 + 1) (o + A.length) M r hM (by simpa using hl) fun j hj => by
        have := hy (j + 1) (by omega)
        rw [List.getElem?_cons_succ] at this
        rw [← this, show i0 + (j + 1) = i0 + 1 + j by omega]
      refine ⟨appG A M g1 g2, ?_, wfL_app _ _ _ _ a2 b2, ?_⟩
      · rw [envT_app, List.length_append, List.take_add, List.drop_drop]
        rw [hd, take_len (by rw [← a1.len, envT_len])] at a1
        exact a1.append b1
      · rw [bkL_app]
        simp only [List.map_cons, Rows.uptoBulkAll]
        omega
theorem sum_bulk {e : El} : ∀ (l : List (ty e)) (ds : List (DataW H)), l.length = ds.length → (∀ (i : Nat) (x : ty e) (d : DataW H), l[i]? = some x → ds[i]? = some d → bk e x ≤ Rows.uptoBulk d) → (l.map (bk e)).sum ≤ Rows.uptoBulkAll ds
  | [], _, _, _ => by simp
  | x :: l, [], h, _ => by simp at h
  | x :: l, d :: ds, h, k => by
    have h1 := k 0 x d rfl rfl
    have h2 := sum_bulk l ds (by simpa using h) fun i y d hy hd => k (i + 1) y d (by simpa using hy) (by simpa using hd)
    simp only [List.map_cons, List.sum_cons, Rows.uptoBulkAll]
    omega
theorem flat_elems {fuel : Nat} {e : TypeId} {te : TI} {k : El} (hD : TDok P D) (he : tyOf D e = some te) (hk : te.el = some k) (hflat : ∃ m, flatL D m e = some (lvs k))
    (ih : ∀ m t L cs x, flatL D m t = some L → DataW.trod en P w 0 (fun _ => true) true fuel t cs = some x → ∃ g : prodL L, RdL w (envT L g) cs ∧ wfL L g ∧ bkL L g ≤ Rows.uptoBulk x.1)
    {a : Addr} {len cap : Nat} {elems : List (DataW H × List MemPlace)} (h1 : len ≤ cap) (h2 : cap ≤ maxLen)
    (h : (List.range len).mapM (fun i => (w.cells? 0 (a.add (i * P.cellsOf e)) (P.cellsOf e)).bind (DataW.trod en P w 0 (fun _ => true) true fuel e)) = some elems) :
    ∃ l : List (ty k), Rd w (.sl false k l) (.slice (some a) len cap) ∧ (∀ x ∈ l, wfE k x) ∧ (l.map (bk k)).sum ≤ Rows.uptoBulkAll (elems.map (·.1)) := by
  obtain ⟨m, hflat⟩ := hflat
  have hsz : P.cellsOf e = sz k := by rw [cellsOf_ti (hD _ _ he), ((hD _ _ he).el _ hk).1]
  rw [hsz] at h
  obtain ⟨e1, e2⟩ := mapM_get h
  simp only [List.length_range] at e1
  obtain ⟨l, l1, l2⟩ := exists_list (p := fun j (x : ty k) => wfE k x ∧ (∀ d, elems[j]? = some d → bk k x ≤ Rows.uptoBulk d.1) ∧ ∀ q u, (enc k x)[q]? = some u → ∃ v, w.cell? ((a.add (j * sz k)).add q) = some v ∧ Rd w u v) len (fun j hj => by
    have hje : j < elems.length := by omega
    have := e2 j j elems[j] (by simp [hj]) (List.getElem?_eq_getElem hje)
    obtain ⟨cs, c1, c2⟩ := Option.bind_eq_some_iff.1 this
    obtain ⟨g, g1, g2, g3⟩ := ih m e _ cs _ hflat c2
    obtain ⟨d1, d2⟩ := cells_at c1
    refine ⟨mkE k g, wf_mk k g g2, fun d hd => ?_, fun q u hq => ?_⟩
    · rw [List.getElem?_eq_getElem hje] at hd
      injection hd with hd
      subst hd
      rw [bk_mk]; exact g3
    · rw [enc_mk] at hq
      have hq' : q < cs.length := by rw [← g1.len]; exact (List.getElem?_eq_some_iff.1 hq).1
      exact ⟨cs[q], d2 q _ (List.getElem?_eq_getElem hq'), g1.get q u _ hq (List.getElem?_eq_getElem hq')⟩)
  refine ⟨l, ?_, fun x hx => ?_, sum_bulk _ _ (by simp [l1, e1]) fun i x d hx hd => ?_⟩
  · by_cases h0 : len = 0
    · subst h0
      have : l = [] := List.eq_nil_of_length_eq_zero l1
      subst this
      exact .sl0 _ _ _ h2
    have hp := sz_pos k
    -- the first element is there: the address has no spot, its block is of cells
    have hl0 : 0 < l.length := by omega
    have henc0 : 0 < (enc k l[0]).length := by rw [enc_len]; exact hp
    obtain ⟨v0, hv0, _⟩ := (l2 0 l[0] (List.getElem?_eq_getElem hl0)).2.2 0 _ (List.getElem?_eq_getElem henc0)
    obtain ⟨b, off, spot⟩ := a
    have hadd0 : ((Addr.add ⟨b, off, spot⟩ (0 * sz k)).add 0) = ⟨b, off, spot⟩ := by simp [Addr.add]
    rw [hadd0] at hv0
    obtain ⟨blk, E, fr, hb, hs⟩ : ∃ blk E fr, w.heap[b]? = some (.cells blk E fr) ∧ spot = none := by
      unfold World.cell? at hv0
      split at hv0
      · rename_i c E fr hb
        split at hv0
        · cases hv0
        · rename_i hs
          exact ⟨c, E, fr, hb, by simpa using hs⟩
      · cases hv0
    subst hs
    have hadd : ∀ i q, ((Addr.add ⟨b, off, none⟩ (i * sz k)).add q) = ⟨b, off + i * sz k + q, none⟩ := fun i q => by
      unfold Addr.add; split <;> split <;> simp_all
    have hcell : ∀ i x q u, l[i]? = some x → (enc k x)[q]? = some u → ∃ v, blk[off + i * sz k + q]? = some v ∧ Rd w u v := fun i x q u hi hq => by
      obtain ⟨v, v1, v2⟩ := (l2 i x hi).2.2 q u hq
      rw [hadd] at v1
      simp [World.cell?, hb] at v1
      exact ⟨v, v1, v2⟩
    have hlen : off + l.length * sz k ≤ blk.size := by
      have hlast : l.length - 1 < l.length := by omega
      have hq : sz k - 1 < (enc k l[l.length - 1]).length := by rw [enc_len]; omega
      obtain ⟨v, v1, _⟩ := hcell _ _ _ _ (List.getElem?_eq_getElem hlast) (List.getElem?_eq_getElem hq)
      have := (Array.getElem?_eq_some_iff.1 v1).1
      have e : l.length * sz k = (l.length - 1) * sz k + sz k := by
        rw [← Nat.succ_mul]; congr 1; omega
      omega
    have hR : Rd w (.sl false k l) (.slice (some ⟨b, off, none⟩) l.length cap) := by
      refine .sl k l b off (List.replicate off .undef ++ encs k l) cap (by omega) h2 (.mk _ _ blk E fr hb (fun n e => ?_) (by simp [encs_len]; omega) fun j u x hj hx hpu => ?_) ?_
      · have hm : (T.tu [.int .i64 (n : Int)]) ∈ List.replicate off T.undef ++ encs k l := by rw [e]; simp
        rcases List.mem_append.1 hm with hm | hm
        · have := (List.mem_replicate.1 hm).2; cases this
        · have := encs_pure _ hm; simp [T.pure1] at this
      · by_cases hjo : j < off
        · rw [List.getElem?_append_left (by simpa using hjo)] at hj
          simp [List.getElem?_replicate, hjo] at hj
          subst hj
          simp [T.pure1] at hpu
        · rw [List.getElem?_append_right (by simpa using Nat.le_of_not_lt hjo)] at hj
          simp only [List.length_replicate] at hj
          obtain ⟨i, q, y, hJ, _, hy, hu⟩ := encs_split hj
          obtain ⟨v, v1, v2⟩ := hcell i y q u hy hu
          have : off + i * sz k + q = j := by omega
          rw [this, hx] at v1
          injection v1 with v1
          subst v1
          exact v2
      · rw [List.drop_left' (by simp), ← encs_len]
        exact List.take_length
    rw [l1] at hR
    exact hR
  · obtain ⟨i, hi⟩ := List.mem_iff_getElem?.1 hx
    exact (l2 i x hi).1
  · simp only [List.getElem?_map, Option.map_eq_some_iff] at hd
    obtain ⟨d', hd', rfl⟩ := hd
    exact (l2 i x hx).2.1 d' hd'
theorem trod_flat (hD : TDok P D) (hK : KindsOk D) : ∀ (fuel m : Nat) (t : TypeId) (L : List Lf) (cs : List Value) (x : DataW H × List MemPlace), flatL D m t = some L → DataW.trod en P w 0 (fun _ => true) true fuel t cs = some x →
    ∃ g : prodL L, RdL w (envT L g) cs ∧ wfL L g ∧ bkL L g ≤ Rows.uptoBulk x.1
  | 0, _, _, _, _, _, _, h => by simp [DataW.trod] at h
  | fuel + 1, 0, _, _, _, _, h, _ => by simp [flatL] at h
  | fuel + 1, m + 1, t, L, cs, x, hf, h => by
    simp only [flatL] at hf
    split at hf
    case h_2 => cases hf
    rename_i ti hti
    obtain ⟨d, hu, _, hs⟩ := (hD _ _ hti).under
    have hc := cellsOf_ti (hD _ _ hti)
    have h0 := h
    unfold DataW.trod at h
    rw [hu] at h
    split at hf
    case h_1 k hk =>
      rw [hk] at hs
      subst hs
      injection hf with hf
      subst hf
      split at h <;> first | (cases h; done) | (rename_i ed; cases ed; done) | (rename_i ed; cases ed)
      split at h
      · rename_i hh
        obtain ⟨rfl, hw⟩ := hh
        injection h with h
        subst h
        simp only [Lit.wf, Bool.and_eq_true, decide_eq_true_eq] at hw
        exact ⟨(_, ()), ⟨.int _ _, trivial⟩, ⟨hw, trivial⟩, by simp [bkL, Rows.uptoBulk]⟩
      · cases h
    case h_2 hk =>
      rw [hk] at hs
      subst hs
      injection hf with hf
      subst hf
      split at h <;> first | (cases h; done) | (rename_i ed; cases ed; done) | (rename_i ed; cases ed)
      injection h with h
      subst h
      exact ⟨(_, ()), ⟨.bool _, trivial⟩, trivial, by simp [bkL, Rows.uptoBulk]⟩
    case h_3 hk =>
      rw [hk] at hs
      subst hs
      injection hf with hf
      subst hf
      split at h <;> first | (cases h; done) | (rename_i ed; cases ed; done) | (rename_i ed; cases ed)
      split at h
      · injection h with h
        subst h
        exact ⟨(_, ()), ⟨.str _, trivial⟩, trivial, by simp [bkL, Rows.uptoBulk]⟩
      · cases h
    case h_4 e hk =>
      rw [hk] at hs
      obtain ⟨rfl, _⟩ := hs
      split at hf
      case h_2 => cases hf
      rename_i te hte
      split at hf
      case h_2 => cases hf
      rename_i k hel
      injection hf with hf
      subst hf
      split at h <;> first | (cases h; done) | (rename_i ed; cases ed; done) | (rename_i ed; cases ed)
      · injection h with h
        subst h
        exact ⟨([], ()), ⟨.sl0 _ _ _ (Nat.zero_le _), trivial⟩, ⟨by simp, trivial⟩, by simp [bkL, Rows.uptoBulk]⟩
      · split at h
        case isFalse => cases h
        rename_i hh
        obtain ⟨_, h1, h2⟩ := hh
        obtain ⟨elems, c1, c2⟩ := Option.bind_eq_some_iff.1 h
        obtain ⟨l, l1, l2, l3⟩ := flat_elems hD hte hel (hK _ _ _ hte hel) (fun m t L cs x => trod_flat hD hK fuel m t L cs x) h1 h2 c1
        refine ⟨(l, ()), ⟨l1, trivial⟩, ⟨l2, trivial⟩, ?_⟩
        obtain ⟨rest, _, rfl⟩ := Option.map_eq_some_iff.1 c2
        simp only [bkL, Rows.uptoBulk]
        omega
    case h_5 fs hk =>
      rw [hk] at hs
      obtain ⟨fields, rfl, rfl, _⟩ := hs
      split at hf
      case h_2 => cases hf
      rename_i L' hL
      split at hf
      case h_2 => cases hf
      rename_i hd
      have hd := of_decide_eq_true hd
      injection hf with hf
      subst hf
      split at h <;> first | (cases h; done) | (simp at h; done) | (exfalso; simp_all; done) | (rename_i ed; cases ed; done) | (rename_i ed; cases ed)
      split at h
      case isFalse => cases h
      rename_i hlen
      obtain ⟨xs, c1, rfl⟩ := Option.map_eq_some_iff.1 h
      obtain ⟨g, a1, a2, a3⟩ := flat_fields (fun t L cs x => trod_flat hD hK fuel m t L cs x) fields.toList 0 _ xs hL c1
      refine ⟨g, ?_, a2, ?_⟩
      · rw [List.drop_zero, List.take_of_length_le (by omega)] at a1
        exact a1
      · simp only [Rows.uptoBulk]
        omega
    case h_6 m' e hk =>
      rw [hk] at hs
      simp only [srtOk] at hs
      subst hs
      clear h
      split at hf
      case h_2 => cases hf
      rename_i te hte
      split at hf
      case h_2 => cases hf
      rename_i L' hL
      split at hf
      case h_2 => cases hf
      rename_i hd
      have hd := of_decide_eq_true hd
      injection hf with hf
      subst hf
      obtain ⟨xs, fu, e1, rfl, hlen, hn, hel⟩ := DataW.trod_array hu h0
      obtain rfl : fuel = fu := by omega
      have hce := cellsOf_ti (hD _ _ hte)
      obtain ⟨g, a1, a2, a3⟩ := flat_arr (fun t L cs x => trod_flat hD hK fuel m t L cs x) m' 0 0 _ xs hL hn fun j hj => by
        have := hel j hj
        rw [hce] at this
        rw [Nat.zero_add]
        exact this
      refine ⟨g, ?_, a2, ?_⟩
      · rw [List.drop_zero, List.take_of_length_le (by omega)] at a1
        exact a1
      · simp only [Rows.uptoBulk]
        omega
    case h_7 => cases hf
end
end Go.Proofs.YtoclmkbjgmgekaaDoor
namespace Go.Proofs.YtoclmkbjgmgekaaDoor
set_option linter.unusedVariables false
set_option linter.unusedSimpArgs false
set_option linter.unusedSectionVars false
open Go.RowKit Go.ChangeShapes
variable {P : Program}
def parL (D : TD) : List TypeId → Option (List Lf)
  | [] => some []
  | t :: r => match flatL D 8 t, parL D r with
    | some L, some M => some (L ++ M)
    | _, _ => none
def shOf (D : TD) (t : TypeId) : Sh := match tyOf D t with
  | some ti => match ti.agg with
    | true => .ag (List.replicate ti.size .leaf)
    | false => .leaf
  | none => .any
def shTs (D : TD) : List TypeId → List Sh
  | [] => []
  | t :: r => shOf D t :: shTs D r
theorem bld_leaves : ∀ (us rest : List T), bldL (List.replicate us.length .leaf) (us ++ rest) = (us, rest)
  | [], rest => by simp [bldL]
  | u :: us, rest => by simp [List.replicate_succ, bldL, bld, bld_leaves us rest]
section
variable {P : Program} {D : TD} {w : World} {H : Type} {en : TypeId × Value → H}
theorem flat_one (hD : TDok P D) {t : TypeId} {L : List Lf} {m base : Nat} {v : Value} {d : DataW H} {ps : List MemPlace} {g : prodL L} (hf : flatL D m t = some L) (hok : Value.okWide P w .any base t v) (hr : RdL w (envT L g) v.cells.toList) :
    ∀ rest, (bld (shOf D t) (envT L g ++ rest)).2 = rest ∧ R (g0 P w) (bld (shOf D t) (envT L g ++ rest)).1 v := by
  intro rest
  cases m with
  | zero => simp [flatL] at hf
  | succ m =>
  simp only [flatL] at hf
  split at hf
  case h_2 => cases hf
  rename_i ti hti
  obtain ⟨dd, hu, ha, hs⟩ := (hD _ _ hti).under
  unfold shOf
  rw [hti]
  unfold Value.okWide at hok
  rw [hu] at hok
  have one : ∀ {a : Lf}, L = [a] → v.cells = #[v] → aggDesc dd = false → (bld (match ti.agg with | true => Sh.ag (List.replicate ti.size Sh.leaf) | false => Sh.leaf) (envT L g ++ rest)).2 = rest ∧ R (g0 P w) (bld (match ti.agg with | true => Sh.ag (List.replicate ti.size Sh.leaf) | false => Sh.leaf) (envT L g ++ rest)).1 v := by
    intro a hL hv hag
    subst hL
    rw [← ha, hag]
    rw [hv] at hr
    exact ⟨rfl, hr.1.R.1⟩
  split at hf
  case h_1 k hk =>
    rw [hk] at hs; subst hs
    injection hf with hf
    refine one hf.symm ?_ rfl
    cases v <;> first | rfl | (simp [Cell.okWide, Cell.ok, hu] at hok)
  case h_2 hk =>
    rw [hk] at hs; subst hs
    injection hf with hf
    refine one hf.symm ?_ rfl
    cases v <;> first | rfl | (simp [Cell.okWide, Cell.ok, hu] at hok)
  case h_3 hk =>
    rw [hk] at hs; subst hs
    injection hf with hf
    refine one hf.symm ?_ rfl
    cases v <;> first | rfl | (simp [Cell.okWide, Cell.ok, hu] at hok)
  case h_4 e hk =>
    rw [hk] at hs
    obtain ⟨rfl, _⟩ := hs
    split at hf
    case h_2 => cases hf
    split at hf
    case h_2 => cases hf
    injection hf with hf
    refine one hf.symm ?_ rfl
    cases v <;> first | rfl | (simp [Cell.okWide, Cell.ok, hu] at hok)
  case h_5 fs hk =>
    rw [hk] at hs
    obtain ⟨fields, rfl, rfl, _⟩ := hs
    split at hf
    case h_2 => cases hf
    split at hf
    case h_2 => cases hf
    rename_i hd
    have hd := of_decide_eq_true hd
    injection hf with hf
    subst hf
    obtain ⟨cs, rfl, _, _⟩ := hok
    dsimp only
    rw [← ha]
    have hlen := envT_len _ g
    have hb := bld_leaves (envT _ g) rest
    rw [hlen, hd] at hb
    simp only [aggDesc, bld, hb, true_and]
    have hr : RdL w (envT _ g) cs.toList := hr
    refine .ag _ _ (by simpa using hr.len) (fun i c x hc hx => (hr.get i c x hc (by simpa using hx)).R.1) fun i x hx => ?_
    have hi : i < (envT _ g).length := by rw [hr.len]; simpa using (Array.getElem?_eq_some_iff.1 hx).1
    exact ((hr.get i _ x (List.getElem?_eq_getElem hi) (by simpa using hx)).R (P := P)).2
  case h_6 m' e hk =>
    rw [hk] at hs
    simp only [srtOk] at hs
    subst hs
    split at hf
    case h_2 => cases hf
    split at hf
    case h_2 => cases hf
    split at hf
    case h_2 => cases hf
    rename_i hd
    have hd := of_decide_eq_true hd
    injection hf with hf
    subst hf
    obtain ⟨cs, rfl, _, _⟩ := hok
    rw [← ha]
    have hlen := envT_len _ g
    have hb := bld_leaves (envT _ g) rest
    rw [hlen, hd] at hb
    simp only [aggDesc, bld, hb, true_and]
    have hr : RdL w (envT _ g) cs.toList := hr
    refine .ag _ _ (by simpa using hr.len) (fun i c x hc hx => (hr.get i c x hc (by simpa using hx)).R.1) fun i x hx => ?_
    have hi : i < (envT _ g).length := by rw [hr.len]; simpa using (Array.getElem?_eq_some_iff.1 hx).1
    exact ((hr.get i _ x (List.getElem?_eq_getElem hi) (by simpa using hx)).R (P := P)).2
  case h_7 => cases hf
theorem flat_args (hD : TDok P D) (hK : KindsOk D) {base : Nat} : ∀ (ts : List TypeId) (L : List Lf) (args : List Value) (ds : List (DataW H)) (ps : List MemPlace), parL D ts = some L → DataW.TrodAll en P w 0 (fun _ => true) true ts args ds ps →
    (∀ (j : Nat) t v, ts[j]? = some t → args[j]? = some v → Value.okWide P w .any base t v) →
    ∃ g : prodL L, (∀ rest, (bldL (shTs D ts) (envT L g ++ rest)).1.length = args.length ∧ ∀ (i : Nat) (u : T) (x : Value), (bldL (shTs D ts) (envT L g ++ rest)).1[i]? = some u → args[i]? = some x → R (g0 P w) u x) ∧ wfL L g ∧ bkL L g ≤ Rows.uptoBulkAll ds
  | [], L, args, ds, ps, hf, ht, _ => by
    obtain ⟨rfl, rfl, rfl⟩ := trodAll_nil ht
    simp [parL] at hf
    subst hf
    exact ⟨(), fun rest => ⟨by simp [shTs, bldL], by simp⟩, trivial, Nat.zero_le _⟩
  | t :: ts, L, args, ds, ps, hf, ht, hok => by
    obtain ⟨v, vs, d, ds', p, q, rfl, rfl, rfl, h1, h2⟩ := trodAll_cons ht
    simp only [parL] at hf
    split at hf
    case h_2 => cases hf
    rename_i A B hA hB
    injection hf with hf
    subst hf
    obtain ⟨fuel, h1⟩ := h1
    obtain ⟨g1, a1, a2, a3⟩ := trod_flat hD hK fuel 8 t A _ _ hA h1
    obtain ⟨g2, b1, b2, b3⟩ := flat_args hD hK ts B vs ds' q hB h2 fun j t v h h' => hok (j + 1) t v (by simpa using h) (by simpa using h')
    have hone := flat_one (ps := p) (d := d) hD hA (hok 0 t v rfl rfl) a1
    refine ⟨appG A B g1 g2, fun rest => ?_, wfL_app _ _ _ _ a2 b2, ?_⟩
    · rw [envT_app, List.append_assoc]
      simp only [shTs, bldL]
      obtain ⟨c1, c2⟩ := hone (envT B g2 ++ rest)
      rw [c1]
      obtain ⟨e1, e2⟩ := b1 rest
      refine ⟨by simp [e1], fun i u x hu hx => ?_⟩
      cases i with
      | zero => simp at hu hx; subst hu; subst hx; exact c2
      | succ i => simp at hu hx; exact e2 i u x hu hx
    · rw [bkL_app]
      have a3 : bkL A g1 ≤ Rows.uptoBulk d := a3
      simp only [Rows.uptoBulkAll]
      omega
theorem trodAll_carry {w' : World} {sp : Nat → Bool} {hd : Bool} : ∀ {ts : List TypeId} {vs : List Value} {ds : List (DataW H)} {ps : List MemPlace}, DataW.TrodAll en P w 0 sp hd ts vs ds ps → (∀ p ∈ ps, w.sameAt w' p) → DataW.TrodAll en P w' 0 sp hd ts vs ds ps
  | [], _, _, _, h, _ => by
    obtain ⟨rfl, rfl, rfl⟩ := trodAll_nil h
    rfl
  | t :: ts, _, _, _, h, hs => by
    obtain ⟨v, vs, d, ds', p, q, rfl, rfl, rfl, ⟨n, h1⟩, h2⟩ := trodAll_cons h
    exact ⟨p, q, ⟨n, DataW.trod_carry n _ _ _ h1 fun x hx => hs x (List.mem_append_left _ hx)⟩, trodAll_carry h2 fun x hx => hs x (List.mem_append_right _ hx), rfl⟩
theorem step_kept {g' : G P} {st' : St} {w' : World} {b0 : B0} (h : Step b0 (g0 P w) [] w g' st' w') : (∀ b, b < w.heap.size → w'.heap[b]? = w.heap[b]?) := fun b hb => h.block b hb fun ⟨k, o, ho, _⟩ => by simp at ho
theorem kept_of {w' : World} (h1 : w'.os = w.os) (h2 : w'.output = w.output) (h : ∀ b, b < w.heap.size → w'.heap[b]? = w.heap[b]?) (may : MemPlace → Prop) : w.keptBut w' may := by
  refine ⟨h1, h2, fun i hi => ?_⟩
  rw [h i hi]
  split
  · rename_i e1 e2
    rw [e1] at e2
    simp only [Option.some.injEq, Obj.cells.injEq] at e2
    obtain ⟨rfl, rfl, rfl⟩ := e2
    exact ⟨rfl, rfl, rfl, fun _ _ => rfl⟩
  · rename_i e1 e2
    rw [e1] at e2
    simp only [Option.some.injEq, Obj.map.injEq] at e2
    exact .inr ⟨e2.1.symm, e2.2.symm⟩
  · rfl
theorem law_contract (hD : TDok P D) (hK : KindsOk D) (kids : Kids P (· < P.types.size)) (full : ∀ t e, t < P.types.size → P.underlying t = some (.slice e) → 0 < P.cellsOf e) {f : FuncId} {fn : Func} {s : ChangeSpec} {tb : TypeId}
    (hvars : s.vars = []) (hfn : ∀ ds : List (DataW H), ds.length = fn.params.size → s.fn H ds = { results := [.lit (.bool true)], args := ds }) (hres : fn.resultTypes = #[tb]) (htb : P.underlying tb = some .bool) (hts : ∀ t ∈ fn.params.toList, t < P.types.size)
    {L : List Lf} {S : List Sh} (hL : parL D fn.params.toList = some L) (hS : shTs D fn.params.toList = S)
    {base : Nat} {args : Array Value} {ds gs : List (DataW H)} {before : List MemPlace} (hF : ∀ g : prodL L, wfL L g → bkL L g ≤ Rows.uptoBulkAll (ds ++ gs) → FCalls P f (argsT S L g) [] (fun r _ => r = .bool true) fun _ _ => False)
    (hval : ∀ (j : Nat) t v, fn.params[j]? = some t → args[j]? = some v → Value.okWide P w .any base t v) (hW : DataW.Whole en P fn.params.toList s.vars false w args.toList ds gs before) (hy : ytab f = none := by rfl) (hlaid : LaidG (RdB w) := by trivial) :
    Calls P f args w fun e w' => ∃ v, e = .returned v ∧ s.post en P fn false true false false w args v w' := by
  have hW' := hW
  obtain ⟨p, q, hA, hV, hpq, hfz, hnd⟩ := hW
  rw [hvars] at hV
  obtain ⟨rfl, rfl⟩ := trodVars_none hV
  rw [List.append_nil] at hpq
  subst hpq
  simp only [List.append_nil] at hF
  obtain ⟨g, r1, r2, r3⟩ := flat_args (base := base) hD hK _ _ _ _ _ hL hA fun j t v h h' => hval j t v (by simpa using h) (by simpa using h')
  have hc := hF g r2 r3 (g0 P w) w (good0 w hlaid)
  unfold Atc at hc
  rw [hy] at hc
  replace hc := hc.2 args
  have hargs : RL (g0 P w) (argsT S L g) args := by
    obtain ⟨a1, a2⟩ := r1 []
    rw [List.append_nil, hS] at a1 a2
    exact ⟨by simpa [argsT] using a1, fun i u x hu hx => a2 i u x hu (by simpa using hx)⟩
  have hlen : ds.length = fn.params.size := by
    have : ∀ {ts : List TypeId} {vs : List Value} {ds : List (DataW H)} {ps : List MemPlace}, DataW.TrodAll en P w 0 (fun _ => true) true ts vs ds ps → ds.length = ts.length := by
      intro ts
      induction ts with
      | nil => intro vs ds ps h; obtain ⟨_, rfl, _⟩ := trodAll_nil h; rfl
      | cons t ts ih =>
        intro vs ds ps h
        obtain ⟨v, vs, d, ds', p, q, rfl, rfl, rfl, _, h2⟩ := trodAll_cons h
        simp [ih h2]
    simpa using this hA
  refine (hc hargs).mono fun e w' ⟨g', st', _, h2, h3⟩ => ?_
  cases e with
  | returned x =>
    obtain ⟨r, rfl, hx⟩ := h3
    cases hx
    have hsame := step_kept h2
    have hsat : ∀ p ∈ before, w.sameAt w' p := fun x hx => by
      have hlt := hW'.lt x hx
      cases x with
      | cell b off => simp only [World.sameAt, World.cell?]; rw [hsame b hlt]
      | map b => exact hsame b hlt
    refine ⟨_, rfl, ds, [], before, [], before, [], hW', ?_, ?_, ?_, kept_of h2.os h2.output hsame _ |> World.keptBut_mono (fun x hx => hx), fun h => by cases h⟩
    · rw [List.append_nil, hfn ds hlen, hres]
      exact trodAll_mk1 (shut_bool htb _)
    · rw [List.append_nil, hfn ds hlen]
      have := DataW.TrodAll.respare (spare' := fun b => decide (b < w.heap.size)) kids (fun t e ht => full t e ht) hts hA fun x hx => by simpa using hW'.lt x hx
      exact trodAll_carry this hsat
    · rw [hvars, List.append_nil, hfn ds hlen]; rfl
  | panicked ch => obtain ⟨_, _, _, h, _⟩ := h3; exact h.elim
  | outgrown => exact h3.elim
end
end Go.Proofs.YtoclmkbjgmgekaaDoor
namespace Go.Proofs.YtoclmkbjgmgekaaDoor
set_option linter.unusedVariables false
set_option linter.unusedSimpArgs false
set_option linter.unusedSectionVars false
open Go.RowKit
set_option maxRecDepth 100000
def ti1 : TI := ⟨false, 1, 8, .other, none, none, none⟩
theorem ti1_ok : TIok Tryd.prog 1 ti1 := TIok.none Tryd.underlying1 Tryd.type1 rfl trivial rfl rfl rfl (fun _ h => by cases h) (fun _ h => by cases h) rfl
def ti2 : TI := ⟨false, 1, 8, .int .i64, some [.int .i64 0], none, none⟩
theorem ti2_ok : TIok Tryd.prog 2 ti2 := TIok.agg Tryd.underlying2 Tryd.type2 rfl rfl rfl rfl rfl rfl rfl rfl rfl (fun h => by first | rfl | (cases h; done)) (fun _ h => by cases h) (fun _ h => by cases h) (fun _ h => by cases h)
def ti3 : TI := ⟨false, 1, 8, .int .i64, some [.int .i64 0], none, none⟩
theorem ti3_ok : TIok Tryd.prog 3 ti3 := TIok.agg Tryd.underlying3 Tryd.type3 rfl rfl rfl rfl rfl rfl rfl rfl rfl (fun h => by first | rfl | (cases h; done)) (fun _ h => by cases h) (fun _ h => by cases h) (fun _ h => by cases h)
def ti4 : TI := ⟨false, 1, 1, .bool, some [.bool false], none, none⟩
theorem ti4_ok : TIok Tryd.prog 4 ti4 := TIok.agg Tryd.underlying4 Tryd.type4 rfl rfl rfl rfl rfl rfl rfl rfl rfl (fun h => by first | rfl | (cases h; done)) (fun _ h => by cases h) (fun _ h => by cases h) (fun _ h => by cases h)
def ti5 : TI := ⟨false, 1, 1, .int .u8, some [.int .u8 0], some .u8, none⟩
theorem ti5_ok : TIok Tryd.prog 5 ti5 := TIok.agg Tryd.underlying5 Tryd.type5 rfl rfl rfl rfl rfl rfl rfl rfl rfl (fun h => by first | rfl | (cases h; done)) (fun e h => by cases h; exact ⟨rfl, by decide⟩) (fun e h => by cases h; rfl) (fun _ h => by cases h)
def ti6 : TI := ⟨false, 1, 1, .int .u8, some [.int .u8 0], none, none⟩
theorem ti6_ok : TIok Tryd.prog 6 ti6 := TIok.agg Tryd.underlying6 Tryd.type6 rfl rfl rfl rfl rfl rfl rfl rfl rfl (fun h => by first | rfl | (cases h; done)) (fun _ h => by cases h) (fun _ h => by cases h) (fun _ h => by cases h)
def ti7 : TI := ⟨true, 4, 24, .struct [(0, 2), (1, 3), (2, 4), (3, 6)], some [.int .i64 0, .int .i64 0, .bool false, .int .u8 0], none, none⟩
theorem ti7_ok : TIok Tryd.prog 7 ti7 := TIok.agg Tryd.underlying7 Tryd.type7 rfl (⟨_, rfl, rfl, by simp [show Tryd.prog.info? 2 = some Tryd.t2 from Tryd.type2, show Tryd.prog.info? 3 = some Tryd.t3 from Tryd.type3, show Tryd.prog.info? 4 = some Tryd.t4 from Tryd.type4, show Tryd.prog.info? 6 = some Tryd.t6 from Tryd.type6]⟩) rfl rfl rfl rfl rfl rfl rfl (fun h => by first | rfl | (cases h; done)) (fun _ h => by cases h) (fun _ h => by cases h) (fun _ h => by cases h)
def ti8 : TI := ⟨true, 4, 24, .struct [(0, 2), (1, 3), (2, 4), (3, 6)], some [.int .i64 0, .int .i64 0, .bool false, .int .u8 0], none, none⟩
theorem ti8_ok : TIok Tryd.prog 8 ti8 := TIok.agg Tryd.underlying8 Tryd.type8 rfl (⟨_, rfl, rfl, by simp [show Tryd.prog.info? 2 = some Tryd.t2 from Tryd.type2, show Tryd.prog.info? 3 = some Tryd.t3 from Tryd.type3, show Tryd.prog.info? 4 = some Tryd.t4 from Tryd.type4, show Tryd.prog.info? 6 = some Tryd.t6 from Tryd.type6]⟩) rfl rfl rfl rfl rfl rfl rfl (fun h => by first | rfl | (cases h; done)) (fun _ h => by cases h) (fun _ h => by cases h) (fun _ h => by cases h)
def ti9 : TI := ⟨false, 1, 16, .string, some [.str ⟨#[]⟩], some .str, none⟩
theorem ti9_ok : TIok Tryd.prog 9 ti9 := TIok.agg Tryd.underlying9 Tryd.type9 rfl rfl rfl rfl rfl rfl rfl rfl rfl (fun h => by first | rfl | (cases h; done)) (fun e h => by cases h; exact ⟨rfl, by decide⟩) (fun e h => by cases h; rfl) (fun _ h => by cases h)
def ti10 : TI := ⟨false, 1, 16, .string, some [.str ⟨#[]⟩], none, none⟩
theorem ti10_ok : TIok Tryd.prog 10 ti10 := TIok.agg Tryd.underlying10 Tryd.type10 rfl rfl rfl rfl rfl rfl rfl rfl rfl (fun h => by first | rfl | (cases h; done)) (fun _ h => by cases h) (fun _ h => by cases h) (fun _ h => by cases h)
def ti11 : TI := ⟨false, 1, 16, .string, some [.str ⟨#[]⟩], none, none⟩
theorem ti11_ok : TIok Tryd.prog 11 ti11 := TIok.agg Tryd.underlying11 Tryd.type11 rfl rfl rfl rfl rfl rfl rfl rfl rfl (fun h => by first | rfl | (cases h; done)) (fun _ h => by cases h) (fun _ h => by cases h) (fun _ h => by cases h)
def ti12 : TI := ⟨false, 1, 8, .int .u64, some [.int .u64 0], none, none⟩
theorem ti12_ok : TIok Tryd.prog 12 ti12 := TIok.agg Tryd.underlying12 Tryd.type12 rfl rfl rfl rfl rfl rfl rfl rfl rfl (fun h => by first | rfl | (cases h; done)) (fun _ h => by cases h) (fun _ h => by cases h) (fun _ h => by cases h)
def ti13 : TI := ⟨true, 2, 24, .struct [(0, 9), (1, 12)], some [.str ⟨#[]⟩, .int .u64 0], none, none⟩
theorem ti13_ok : TIok Tryd.prog 13 ti13 := TIok.agg Tryd.underlying13 Tryd.type13 rfl (⟨_, rfl, rfl, by simp [show Tryd.prog.info? 9 = some Tryd.t9 from Tryd.type9, show Tryd.prog.info? 12 = some Tryd.t12 from Tryd.type12]⟩) rfl rfl rfl rfl rfl rfl rfl (fun h => by first | rfl | (cases h; done)) (fun _ h => by cases h) (fun _ h => by cases h) (fun _ h => by cases h)
def ti14 : TI := ⟨true, 2, 24, .struct [(0, 9), (1, 12)], some [.str ⟨#[]⟩, .int .u64 0], none, none⟩
theorem ti14_ok : TIok Tryd.prog 14 ti14 := TIok.agg Tryd.underlying14 Tryd.type14 rfl (⟨_, rfl, rfl, by simp [show Tryd.prog.info? 9 = some Tryd.t9 from Tryd.type9, show Tryd.prog.info? 12 = some Tryd.t12 from Tryd.type12]⟩) rfl rfl rfl rfl rfl rfl rfl (fun h => by first | rfl | (cases h; done)) (fun _ h => by cases h) (fun _ h => by cases h) (fun _ h => by cases h)
def ti15 : TI := ⟨false, 1, 8, .other, some [.cst (.pointer none)], none, none⟩
theorem ti15_ok : TIok Tryd.prog 15 ti15 := TIok.agg Tryd.underlying15 Tryd.type15 rfl trivial rfl rfl rfl rfl rfl rfl rfl (fun h => by first | rfl | (cases h; done)) (fun _ h => by cases h) (fun _ h => by cases h) (fun _ h => by cases h)
def ti16 : TI := ⟨false, 1, 8, .other, some [.cst (.pointer none)], none, none⟩
theorem ti16_ok : TIok Tryd.prog 16 ti16 := TIok.agg Tryd.underlying16 Tryd.type16 rfl trivial rfl rfl rfl rfl rfl rfl rfl (fun h => by first | rfl | (cases h; done)) (fun _ h => by cases h) (fun _ h => by cases h) (fun _ h => by cases h)
def ti17 : TI := ⟨false, 1, 8, .other, some [.cst (.pointer none)], none, none⟩
theorem ti17_ok : TIok Tryd.prog 17 ti17 := TIok.agg Tryd.underlying17 Tryd.type17 rfl trivial rfl rfl rfl rfl rfl rfl rfl (fun h => by first | rfl | (cases h; done)) (fun _ h => by cases h) (fun _ h => by cases h) (fun _ h => by cases h)
def ti18 : TI := ⟨true, 1, 8, .struct [(0, 17)], some [.cst (.pointer none)], none, none⟩
theorem ti18_ok : TIok Tryd.prog 18 ti18 := TIok.agg Tryd.underlying18 Tryd.type18 rfl (⟨_, rfl, rfl, by simp [show Tryd.prog.info? 17 = some Tryd.t17 from Tryd.type17]⟩) rfl rfl rfl rfl rfl rfl rfl (fun h => by first | rfl | (cases h; done)) (fun _ h => by cases h) (fun _ h => by cases h) (fun _ h => by cases h)
def ti19 : TI := ⟨true, 1, 8, .struct [(0, 17)], some [.cst (.pointer none)], none, none⟩
theorem ti19_ok : TIok Tryd.prog 19 ti19 := TIok.agg Tryd.underlying19 Tryd.type19 rfl (⟨_, rfl, rfl, by simp [show Tryd.prog.info? 17 = some Tryd.t17 from Tryd.type17]⟩) rfl rfl rfl rfl rfl rfl rfl (fun h => by first | rfl | (cases h; done)) (fun _ h => by cases h) (fun _ h => by cases h) (fun _ h => by cases h)
def ti20 : TI := ⟨false, 1, 16, .iface, some [.cst .nilIface], none, none⟩
theorem ti20_ok : TIok Tryd.prog 20 ti20 := TIok.agg Tryd.underlying20 Tryd.type20 rfl (⟨_, rfl⟩) rfl rfl rfl rfl rfl rfl rfl (fun h => by first | rfl | (cases h; done)) (fun _ h => by cases h) (fun _ h => by cases h) (fun _ h => by cases h)
def ti21 : TI := ⟨false, 1, 4, .int .i32, some [.int .i32 0], none, none⟩
theorem ti21_ok : TIok Tryd.prog 21 ti21 := TIok.agg Tryd.underlying21 Tryd.type21 rfl rfl rfl rfl rfl rfl rfl rfl rfl (fun h => by first | rfl | (cases h; done)) (fun _ h => by cases h) (fun _ h => by cases h) (fun _ h => by cases h)
def ti22 : TI := ⟨false, 1, 24, .slice 9, some [.nil], none, none⟩
theorem ti22_ok : TIok Tryd.prog 22 ti22 := TIok.agg Tryd.underlying22 Tryd.type22 rfl (⟨rfl, by rw [show Tryd.prog.info? 9 = some Tryd.t9 from Tryd.type9]; rfl⟩) rfl rfl rfl rfl rfl rfl rfl (fun h => by first | rfl | (cases h; done)) (fun _ h => by cases h) (fun _ h => by cases h) (fun _ h => by cases h)
def ti23 : TI := ⟨false, 1, 8, .other, none, none, none⟩
theorem ti23_ok : TIok Tryd.prog 23 ti23 := TIok.none Tryd.underlying23 Tryd.type23 rfl trivial rfl rfl rfl (fun _ h => by cases h) (fun _ h => by cases h) rfl
def ti24 : TI := ⟨false, 1, 8, .other, none, none, none⟩
theorem ti24_ok : TIok Tryd.prog 24 ti24 := TIok.none Tryd.underlying24 Tryd.type24 rfl trivial rfl rfl rfl (fun _ h => by cases h) (fun _ h => by cases h) rfl
def ti25 : TI := ⟨false, 1, 24, .slice 36, some [.nil], none, none⟩
theorem ti25_ok : TIok Tryd.prog 25 ti25 := TIok.agg Tryd.underlying25 Tryd.type25 rfl (⟨rfl, by rw [show Tryd.prog.info? 36 = some Tryd.t36 from Tryd.type36]; rfl⟩) rfl rfl rfl rfl rfl rfl rfl (fun h => by first | rfl | (cases h; done)) (fun _ h => by cases h) (fun _ h => by cases h) (fun _ h => by cases h)
def ti26 : TI := ⟨false, 1, 8, .int .i64, some [.int .i64 0], none, none⟩
theorem ti26_ok : TIok Tryd.prog 26 ti26 := TIok.agg Tryd.underlying26 Tryd.type26 rfl rfl rfl rfl rfl rfl rfl rfl rfl (fun h => by first | rfl | (cases h; done)) (fun _ h => by cases h) (fun _ h => by cases h) (fun _ h => by cases h)
def ti28 : TI := ⟨false, 1, 8, .other, none, none, none⟩
theorem ti28_ok : TIok Tryd.prog 28 ti28 := TIok.none Tryd.underlying28 Tryd.type28 rfl trivial rfl rfl rfl (fun _ h => by cases h) (fun _ h => by cases h) rfl
def ti29 : TI := ⟨false, 1, 8, .other, none, none, none⟩
theorem ti29_ok : TIok Tryd.prog 29 ti29 := TIok.none Tryd.underlying29 Tryd.type29 rfl trivial rfl rfl rfl (fun _ h => by cases h) (fun _ h => by cases h) rfl
def ti30 : TI := ⟨false, 1, 8, .other, none, none, none⟩
theorem ti30_ok : TIok Tryd.prog 30 ti30 := TIok.none Tryd.underlying30 Tryd.type30 rfl trivial rfl rfl rfl (fun _ h => by cases h) (fun _ h => by cases h) rfl
def ti31 : TI := ⟨false, 1, 24, .slice 43, some [.nil], none, none⟩
theorem ti31_ok : TIok Tryd.prog 31 ti31 := TIok.agg Tryd.underlying31 Tryd.type31 rfl (⟨rfl, by rw [show Tryd.prog.info? 43 = some Tryd.t43 from Tryd.type43]; rfl⟩) rfl rfl rfl rfl rfl rfl rfl (fun h => by first | rfl | (cases h; done)) (fun _ h => by cases h) (fun _ h => by cases h) (fun _ h => by cases h)
def ti32 : TI := ⟨false, 1, 24, .slice 45, some [.nil], none, none⟩
theorem ti32_ok : TIok Tryd.prog 32 ti32 := TIok.agg Tryd.underlying32 Tryd.type32 rfl (⟨rfl, by rw [show Tryd.prog.info? 45 = some Tryd.t45 from Tryd.type45]; rfl⟩) rfl rfl rfl rfl rfl rfl rfl (fun h => by first | rfl | (cases h; done)) (fun _ h => by cases h) (fun _ h => by cases h) (fun _ h => by cases h)
def ti33 : TI := ⟨true, 4, 80, .struct [(0, 3), (1, 31), (2, 31), (3, 31)], some [.int .i64 0, .nil, .nil, .nil], none, none⟩
theorem ti33_ok : TIok Tryd.prog 33 ti33 := TIok.agg Tryd.underlying33 Tryd.type33 rfl (⟨_, rfl, rfl, by simp [show Tryd.prog.info? 3 = some Tryd.t3 from Tryd.type3, show Tryd.prog.info? 31 = some Tryd.t31 from Tryd.type31]⟩) rfl rfl rfl rfl rfl rfl rfl (fun h => by first | rfl | (cases h; done)) (fun _ h => by cases h) (fun _ h => by cases h) (fun _ h => by cases h)
def ti34 : TI := ⟨true, 4, 80, .struct [(0, 3), (1, 31), (2, 31), (3, 31)], some [.int .i64 0, .nil, .nil, .nil], none, none⟩
theorem ti34_ok : TIok Tryd.prog 34 ti34 := TIok.agg Tryd.underlying34 Tryd.type34 rfl (⟨_, rfl, rfl, by simp [show Tryd.prog.info? 3 = some Tryd.t3 from Tryd.type3, show Tryd.prog.info? 31 = some Tryd.t31 from Tryd.type31]⟩) rfl rfl rfl rfl rfl rfl rfl (fun h => by first | rfl | (cases h; done)) (fun _ h => by cases h) (fun _ h => by cases h) (fun _ h => by cases h)
def ti35 : TI := ⟨true, 12, 224, .struct [(0, 3), (1, 9), (2, 31), (3, 32), (4, 22), (5, 22), (6, 26), (7, 9), (8, 34)], some [.int .i64 0, .str ⟨#[]⟩, .nil, .nil, .nil, .nil, .int .i64 0, .str ⟨#[]⟩, .int .i64 0, .nil, .nil, .nil], none, none⟩
theorem ti35_ok : TIok Tryd.prog 35 ti35 := TIok.agg Tryd.underlying35 Tryd.type35 rfl (⟨_, rfl, rfl, by simp [show Tryd.prog.info? 3 = some Tryd.t3 from Tryd.type3, show Tryd.prog.info? 9 = some Tryd.t9 from Tryd.type9, show Tryd.prog.info? 22 = some Tryd.t22 from Tryd.type22, show Tryd.prog.info? 26 = some Tryd.t26 from Tryd.type26, show Tryd.prog.info? 31 = some Tryd.t31 from Tryd.type31, show Tryd.prog.info? 32 = some Tryd.t32 from Tryd.type32, show Tryd.prog.info? 34 = some Tryd.t34 from Tryd.type34]⟩) rfl rfl rfl rfl rfl rfl rfl (fun h => by first | rfl | (cases h; done)) (fun _ h => by cases h) (fun _ h => by cases h) (fun _ h => by cases h)
def ti36 : TI := ⟨true, 12, 224, .struct [(0, 3), (1, 9), (2, 31), (3, 32), (4, 22), (5, 22), (6, 26), (7, 9), (8, 34)], some [.int .i64 0, .str ⟨#[]⟩, .nil, .nil, .nil, .nil, .int .i64 0, .str ⟨#[]⟩, .int .i64 0, .nil, .nil, .nil], some .msg, none⟩
theorem ti36_ok : TIok Tryd.prog 36 ti36 := TIok.agg Tryd.underlying36 Tryd.type36 rfl (⟨_, rfl, rfl, by simp [show Tryd.prog.info? 3 = some Tryd.t3 from Tryd.type3, show Tryd.prog.info? 9 = some Tryd.t9 from Tryd.type9, show Tryd.prog.info? 22 = some Tryd.t22 from Tryd.type22, show Tryd.prog.info? 26 = some Tryd.t26 from Tryd.type26, show Tryd.prog.info? 31 = some Tryd.t31 from Tryd.type31, show Tryd.prog.info? 32 = some Tryd.t32 from Tryd.type32, show Tryd.prog.info? 34 = some Tryd.t34 from Tryd.type34]⟩) rfl rfl rfl rfl rfl rfl rfl (fun h => by first | rfl | (cases h; done)) (fun e h => by cases h; exact ⟨rfl, by decide⟩) (fun e h => by cases h; rfl) (fun _ h => by cases h)
def ti37 : TI := ⟨false, 1, 8, .other, none, none, none⟩
theorem ti37_ok : TIok Tryd.prog 37 ti37 := TIok.none Tryd.underlying37 Tryd.type37 rfl trivial rfl rfl rfl (fun _ h => by cases h) (fun _ h => by cases h) rfl
def ti39 : TI := ⟨false, 1, 8, .other, none, none, none⟩
theorem ti39_ok : TIok Tryd.prog 39 ti39 := TIok.none Tryd.underlying39 Tryd.type39 rfl trivial rfl rfl rfl (fun _ h => by cases h) (fun _ h => by cases h) rfl
def ti40 : TI := ⟨false, 1, 8, .other, none, none, none⟩
theorem ti40_ok : TIok Tryd.prog 40 ti40 := TIok.none Tryd.underlying40 Tryd.type40 rfl trivial rfl rfl rfl (fun _ h => by cases h) (fun _ h => by cases h) rfl
def ti41 : TI := ⟨false, 1, 8, .other, none, none, none⟩
theorem ti41_ok : TIok Tryd.prog 41 ti41 := TIok.none Tryd.underlying41 Tryd.type41 rfl trivial rfl rfl rfl (fun _ h => by cases h) (fun _ h => by cases h) rfl
def ti42 : TI := ⟨true, 32, 32, .array 32 5, some [.int .u8 0, .int .u8 0, .int .u8 0, .int .u8 0, .int .u8 0, .int .u8 0, .int .u8 0, .int .u8 0, .int .u8 0, .int .u8 0, .int .u8 0, .int .u8 0, .int .u8 0, .int .u8 0, .int .u8 0, .int .u8 0, .int .u8 0, .int .u8 0, .int .u8 0, .int .u8 0, .int .u8 0, .int .u8 0, .int .u8 0, .int .u8 0, .int .u8 0, .int .u8 0, .int .u8 0, .int .u8 0, .int .u8 0, .int .u8 0, .int .u8 0, .int .u8 0], none, none⟩
theorem ti42_ok : TIok Tryd.prog 42 ti42 := TIok.agg Tryd.underlying42 Tryd.type42 rfl rfl rfl rfl rfl rfl rfl rfl rfl (fun h => by first | rfl | (cases h; done)) (fun _ h => by cases h) (fun _ h => by cases h) (fun _ h => by cases h)
def ti43 : TI := ⟨true, 32, 32, .array 32 5, some [.int .u8 0, .int .u8 0, .int .u8 0, .int .u8 0, .int .u8 0, .int .u8 0, .int .u8 0, .int .u8 0, .int .u8 0, .int .u8 0, .int .u8 0, .int .u8 0, .int .u8 0, .int .u8 0, .int .u8 0, .int .u8 0, .int .u8 0, .int .u8 0, .int .u8 0, .int .u8 0, .int .u8 0, .int .u8 0, .int .u8 0, .int .u8 0, .int .u8 0, .int .u8 0, .int .u8 0, .int .u8 0, .int .u8 0, .int .u8 0, .int .u8 0, .int .u8 0], some .dig, some [0, 0, 0, 0, 0, 0, 0, 0, 0, 0, 0, 0, 0, 0, 0, 0, 0, 0, 0, 0, 0, 0, 0, 0, 0, 0, 0, 0, 0, 0, 0, 0]⟩
theorem ti43_ok : TIok Tryd.prog 43 ti43 := TIok.agg Tryd.underlying43 Tryd.type43 rfl rfl rfl rfl rfl rfl rfl rfl rfl (fun h => by first | rfl | (cases h; done)) (fun e h => by cases h; exact ⟨rfl, by decide⟩) (fun e h => by cases h; rfl) (fun ks hks => by cases hks; exact ⟨Tryd.eqGuardType43, rfl, fun vs us b h0 => by rw [eqV_arr (d := 3) Tryd.underlying43 Tryd.type5]; exact eqIs_leaf (d := 2) Tryd.underlying5 32 0 [] [] vs us b rfl rfl h0⟩)
def ti44 : TI := ⟨true, 99, 136, .struct [(0, 43), (32, 43), (64, 4), (65, 3), (66, 43), (98, 31)], some [.int .u8 0, .int .u8 0, .int .u8 0, .int .u8 0, .int .u8 0, .int .u8 0, .int .u8 0, .int .u8 0, .int .u8 0, .int .u8 0, .int .u8 0, .int .u8 0, .int .u8 0, .int .u8 0, .int .u8 0, .int .u8 0, .int .u8 0, .int .u8 0, .int .u8 0, .int .u8 0, .int .u8 0, .int .u8 0, .int .u8 0, .int .u8 0, .int .u8 0, .int .u8 0, .int .u8 0, .int .u8 0, .int .u8 0, .int .u8 0, .int .u8 0, .int .u8 0, .int .u8 0, .int .u8 0, .int .u8 0, .int .u8 0, .int .u8 0, .int .u8 0, .int .u8 0, .int .u8 0, .int .u8 0, .int .u8 0, .int .u8 0, .int .u8 0, .int .u8 0, .int .u8 0, .int .u8 0, .int .u8 0, .int .u8 0, .int .u8 0, .int .u8 0, .int .u8 0, .int .u8 0, .int .u8 0, .int .u8 0, .int .u8 0, .int .u8 0, .int .u8 0, .int .u8 0, .int .u8 0, .int .u8 0, .int .u8 0, .int .u8 0, .int .u8 0, .bool false, .int .i64 0, .int .u8 0, .int .u8 0, .int .u8 0, .int .u8 0, .int .u8 0, .int .u8 0, .int .u8 0, .int .u8 0, .int .u8 0, .int .u8 0, .int .u8 0, .int .u8 0, .int .u8 0, .int .u8 0, .int .u8 0, .int .u8 0, .int .u8 0, .int .u8 0, .int .u8 0, .int .u8 0, .int .u8 0, .int .u8 0, .int .u8 0, .int .u8 0, .int .u8 0, .int .u8 0, .int .u8 0, .int .u8 0, .int .u8 0, .int .u8 0, .int .u8 0, .int .u8 0, .nil], none, none⟩
theorem ti44_ok : TIok Tryd.prog 44 ti44 := TIok.agg Tryd.underlying44 Tryd.type44 rfl (⟨_, rfl, rfl, by simp [show Tryd.prog.info? 3 = some Tryd.t3 from Tryd.type3, show Tryd.prog.info? 4 = some Tryd.t4 from Tryd.type4, show Tryd.prog.info? 31 = some Tryd.t31 from Tryd.type31, show Tryd.prog.info? 43 = some Tryd.t43 from Tryd.type43]⟩) rfl rfl rfl rfl rfl rfl rfl (fun h => by first | rfl | (cases h; done)) (fun _ h => by cases h) (fun _ h => by cases h) (fun _ h => by cases h)
def ti45 : TI := ⟨true, 99, 136, .struct [(0, 43), (32, 43), (64, 4), (65, 3), (66, 43), (98, 31)], some [.int .u8 0, .int .u8 0, .int .u8 0, .int .u8 0, .int .u8 0, .int .u8 0, .int .u8 0, .int .u8 0, .int .u8 0, .int .u8 0, .int .u8 0, .int .u8 0, .int .u8 0, .int .u8 0, .int .u8 0, .int .u8 0, .int .u8 0, .int .u8 0, .int .u8 0, .int .u8 0, .int .u8 0, .int .u8 0, .int .u8 0, .int .u8 0, .int .u8 0, .int .u8 0, .int .u8 0, .int .u8 0, .int .u8 0, .int .u8 0, .int .u8 0, .int .u8 0, .int .u8 0, .int .u8 0, .int .u8 0, .int .u8 0, .int .u8 0, .int .u8 0, .int .u8 0, .int .u8 0, .int .u8 0, .int .u8 0, .int .u8 0, .int .u8 0, .int .u8 0, .int .u8 0, .int .u8 0, .int .u8 0, .int .u8 0, .int .u8 0, .int .u8 0, .int .u8 0, .int .u8 0, .int .u8 0, .int .u8 0, .int .u8 0, .int .u8 0, .int .u8 0, .int .u8 0, .int .u8 0, .int .u8 0, .int .u8 0, .int .u8 0, .int .u8 0, .bool false, .int .i64 0, .int .u8 0, .int .u8 0, .int .u8 0, .int .u8 0, .int .u8 0, .int .u8 0, .int .u8 0, .int .u8 0, .int .u8 0, .int .u8 0, .int .u8 0, .int .u8 0, .int .u8 0, .int .u8 0, .int .u8 0, .int .u8 0, .int .u8 0, .int .u8 0, .int .u8 0, .int .u8 0, .int .u8 0, .int .u8 0, .int .u8 0, .int .u8 0, .int .u8 0, .int .u8 0, .int .u8 0, .int .u8 0, .int .u8 0, .int .u8 0, .int .u8 0, .int .u8 0, .nil], some .rng, none⟩
theorem ti45_ok : TIok Tryd.prog 45 ti45 := TIok.agg Tryd.underlying45 Tryd.type45 rfl (⟨_, rfl, rfl, by simp [show Tryd.prog.info? 3 = some Tryd.t3 from Tryd.type3, show Tryd.prog.info? 4 = some Tryd.t4 from Tryd.type4, show Tryd.prog.info? 31 = some Tryd.t31 from Tryd.type31, show Tryd.prog.info? 43 = some Tryd.t43 from Tryd.type43]⟩) rfl rfl rfl rfl rfl rfl rfl (fun h => by first | rfl | (cases h; done)) (fun e h => by cases h; exact ⟨rfl, by decide⟩) (fun e h => by cases h; rfl) (fun _ h => by cases h)
def ti46 : TI := ⟨false, 1, 8, .other, none, none, none⟩
theorem ti46_ok : TIok Tryd.prog 46 ti46 := TIok.none Tryd.underlying46 Tryd.type46 rfl trivial rfl rfl rfl (fun _ h => by cases h) (fun _ h => by cases h) rfl
def ti48 : TI := ⟨false, 1, 8, .other, none, none, none⟩
theorem ti48_ok : TIok Tryd.prog 48 ti48 := TIok.none Tryd.underlying48 Tryd.type48 rfl trivial rfl rfl rfl (fun _ h => by cases h) (fun _ h => by cases h) rfl
def ti49 : TI := ⟨false, 1, 8, .other, none, none, none⟩
theorem ti49_ok : TIok Tryd.prog 49 ti49 := TIok.none Tryd.underlying49 Tryd.type49 rfl trivial rfl rfl rfl (fun _ h => by cases h) (fun _ h => by cases h) rfl
def ti50 : TI := ⟨false, 1, 8, .other, none, none, none⟩
theorem ti50_ok : TIok Tryd.prog 50 ti50 := TIok.none Tryd.underlying50 Tryd.type50 rfl trivial rfl rfl rfl (fun _ h => by cases h) (fun _ h => by cases h) rfl
def ti51 : TI := ⟨false, 1, 8, .other, none, none, none⟩
theorem ti51_ok : TIok Tryd.prog 51 ti51 := TIok.none Tryd.underlying51 Tryd.type51 rfl trivial rfl rfl rfl (fun _ h => by cases h) (fun _ h => by cases h) rfl
def ti52 : TI := ⟨false, 1, 8, .other, none, none, none⟩
theorem ti52_ok : TIok Tryd.prog 52 ti52 := TIok.none Tryd.underlying52 Tryd.type52 rfl trivial rfl rfl rfl (fun _ h => by cases h) (fun _ h => by cases h) rfl
def ti53 : TI := ⟨false, 1, 8, .other, none, none, none⟩
theorem ti53_ok : TIok Tryd.prog 53 ti53 := TIok.none Tryd.underlying53 Tryd.type53 rfl trivial rfl rfl rfl (fun _ h => by cases h) (fun _ h => by cases h) rfl
def ti54 : TI := ⟨false, 1, 8, .other, none, none, none⟩
theorem ti54_ok : TIok Tryd.prog 54 ti54 := TIok.none Tryd.underlying54 Tryd.type54 rfl trivial rfl rfl rfl (fun _ h => by cases h) (fun _ h => by cases h) rfl
def ti55 : TI := ⟨false, 1, 8, .other, none, none, none⟩
theorem ti55_ok : TIok Tryd.prog 55 ti55 := TIok.none Tryd.underlying55 Tryd.type55 rfl trivial rfl rfl rfl (fun _ h => by cases h) (fun _ h => by cases h) rfl
def ti56 : TI := ⟨false, 1, 24, .slice 58, some [.nil], none, none⟩
theorem ti56_ok : TIok Tryd.prog 56 ti56 := TIok.agg Tryd.underlying56 Tryd.type56 rfl (⟨rfl, by rw [show Tryd.prog.info? 58 = some Tryd.t58 from Tryd.type58]; rfl⟩) rfl rfl rfl rfl rfl rfl rfl (fun h => by first | rfl | (cases h; done)) (fun _ h => by cases h) (fun _ h => by cases h) (fun _ h => by cases h)
def ti57 : TI := ⟨true, 3, 48, .struct [(0, 4), (1, 9), (2, 56)], some [.bool false, .str ⟨#[]⟩, .nil], none, none⟩
theorem ti57_ok : TIok Tryd.prog 57 ti57 := TIok.agg Tryd.underlying57 Tryd.type57 rfl (⟨_, rfl, rfl, by simp [show Tryd.prog.info? 4 = some Tryd.t4 from Tryd.type4, show Tryd.prog.info? 9 = some Tryd.t9 from Tryd.type9, show Tryd.prog.info? 56 = some Tryd.t56 from Tryd.type56]⟩) rfl rfl rfl rfl rfl rfl rfl (fun h => by first | rfl | (cases h; done)) (fun _ h => by cases h) (fun _ h => by cases h) (fun _ h => by cases h)
def ti58 : TI := ⟨true, 3, 48, .struct [(0, 4), (1, 9), (2, 56)], some [.bool false, .str ⟨#[]⟩, .nil], some .sexp, none⟩
theorem ti58_ok : TIok Tryd.prog 58 ti58 := TIok.agg Tryd.underlying58 Tryd.type58 rfl (⟨_, rfl, rfl, by simp [show Tryd.prog.info? 4 = some Tryd.t4 from Tryd.type4, show Tryd.prog.info? 9 = some Tryd.t9 from Tryd.type9, show Tryd.prog.info? 56 = some Tryd.t56 from Tryd.type56]⟩) rfl rfl rfl rfl rfl rfl rfl (fun h => by first | rfl | (cases h; done)) (fun e h => by cases h; exact ⟨rfl, by decide⟩) (fun e h => by cases h; rfl) (fun _ h => by cases h)
def ti59 : TI := ⟨false, 1, 8, .other, none, none, none⟩
theorem ti59_ok : TIok Tryd.prog 59 ti59 := TIok.none Tryd.underlying59 Tryd.type59 rfl trivial rfl rfl rfl (fun _ h => by cases h) (fun _ h => by cases h) rfl
def ti61 : TI := ⟨false, 1, 8, .other, none, none, none⟩
theorem ti61_ok : TIok Tryd.prog 61 ti61 := TIok.none Tryd.underlying61 Tryd.type61 rfl trivial rfl rfl rfl (fun _ h => by cases h) (fun _ h => by cases h) rfl
def ti62 : TI := ⟨false, 1, 8, .map 3 9, none, none, none⟩
theorem ti62_ok : TIok Tryd.prog 62 ti62 := TIok.none Tryd.underlying62 Tryd.type62 rfl rfl rfl rfl rfl (fun _ h => by cases h) (fun _ h => by cases h) rfl
def ti63 : TI := ⟨false, 1, 8, .other, none, none, none⟩
theorem ti63_ok : TIok Tryd.prog 63 ti63 := TIok.none Tryd.underlying63 Tryd.type63 rfl trivial rfl rfl rfl (fun _ h => by cases h) (fun _ h => by cases h) rfl
def ti64 : TI := ⟨false, 1, 8, .other, none, none, none⟩
theorem ti64_ok : TIok Tryd.prog 64 ti64 := TIok.none Tryd.underlying64 Tryd.type64 rfl trivial rfl rfl rfl (fun _ h => by cases h) (fun _ h => by cases h) rfl
def ti65 : TI := ⟨false, 1, 8, .map 9 64, none, none, none⟩
theorem ti65_ok : TIok Tryd.prog 65 ti65 := TIok.none Tryd.underlying65 Tryd.type65 rfl rfl rfl rfl rfl (fun _ h => by cases h) (fun _ h => by cases h) rfl
def ti66 : TI := ⟨false, 1, 8, .other, none, none, none⟩
theorem ti66_ok : TIok Tryd.prog 66 ti66 := TIok.none Tryd.underlying66 Tryd.type66 rfl trivial rfl rfl rfl (fun _ h => by cases h) (fun _ h => by cases h) rfl
def ti67 : TI := ⟨false, 1, 8, .other, some [.cst (.pointer none)], none, none⟩
theorem ti67_ok : TIok Tryd.prog 67 ti67 := TIok.agg Tryd.underlying67 Tryd.type67 rfl trivial rfl rfl rfl rfl rfl rfl rfl (fun h => by first | rfl | (cases h; done)) (fun _ h => by cases h) (fun _ h => by cases h) (fun _ h => by cases h)
def ti68 : TI := ⟨false, 1, 8, .other, none, none, none⟩
theorem ti68_ok : TIok Tryd.prog 68 ti68 := TIok.none Tryd.underlying68 Tryd.type68 rfl trivial rfl rfl rfl (fun _ h => by cases h) (fun _ h => by cases h) rfl
def ti70 : TI := ⟨false, 1, 8, .other, none, none, none⟩
theorem ti70_ok : TIok Tryd.prog 70 ti70 := TIok.none Tryd.underlying70 Tryd.type70 rfl trivial rfl rfl rfl (fun _ h => by cases h) (fun _ h => by cases h) rfl
def ti71 : TI := ⟨false, 1, 8, .other, none, none, none⟩
theorem ti71_ok : TIok Tryd.prog 71 ti71 := TIok.none Tryd.underlying71 Tryd.type71 rfl trivial rfl rfl rfl (fun _ h => by cases h) (fun _ h => by cases h) rfl
def ti72 : TI := ⟨false, 1, 8, .other, none, none, none⟩
theorem ti72_ok : TIok Tryd.prog 72 ti72 := TIok.none Tryd.underlying72 Tryd.type72 rfl trivial rfl rfl rfl (fun _ h => by cases h) (fun _ h => by cases h) rfl
def ti73 : TI := ⟨false, 1, 8, .other, none, none, none⟩
theorem ti73_ok : TIok Tryd.prog 73 ti73 := TIok.none Tryd.underlying73 Tryd.type73 rfl trivial rfl rfl rfl (fun _ h => by cases h) (fun _ h => by cases h) rfl
def ti74 : TI := ⟨false, 1, 8, .other, none, none, none⟩
theorem ti74_ok : TIok Tryd.prog 74 ti74 := TIok.none Tryd.underlying74 Tryd.type74 rfl trivial rfl rfl rfl (fun _ h => by cases h) (fun _ h => by cases h) rfl
def ti75 : TI := ⟨false, 1, 8, .other, none, none, none⟩
theorem ti75_ok : TIok Tryd.prog 75 ti75 := TIok.none Tryd.underlying75 Tryd.type75 rfl trivial rfl rfl rfl (fun _ h => by cases h) (fun _ h => by cases h) rfl
def ti76 : TI := ⟨true, 8, 128, .array 8 9, some [.str ⟨#[]⟩, .str ⟨#[]⟩, .str ⟨#[]⟩, .str ⟨#[]⟩, .str ⟨#[]⟩, .str ⟨#[]⟩, .str ⟨#[]⟩, .str ⟨#[]⟩], none, none⟩
theorem ti76_ok : TIok Tryd.prog 76 ti76 := TIok.agg Tryd.underlying76 Tryd.type76 rfl rfl rfl rfl rfl rfl rfl rfl rfl (fun h => by first | rfl | (cases h; done)) (fun _ h => by cases h) (fun _ h => by cases h) (fun _ h => by cases h)
def ti77 : TI := ⟨false, 1, 8, .other, none, none, none⟩
theorem ti77_ok : TIok Tryd.prog 77 ti77 := TIok.none Tryd.underlying77 Tryd.type77 rfl trivial rfl rfl rfl (fun _ h => by cases h) (fun _ h => by cases h) rfl
def ti78 : TI := ⟨false, 1, 8, .other, none, none, none⟩
theorem ti78_ok : TIok Tryd.prog 78 ti78 := TIok.none Tryd.underlying78 Tryd.type78 rfl trivial rfl rfl rfl (fun _ h => by cases h) (fun _ h => by cases h) rfl
def ti79 : TI := ⟨false, 1, 8, .other, none, none, none⟩
theorem ti79_ok : TIok Tryd.prog 79 ti79 := TIok.none Tryd.underlying79 Tryd.type79 rfl trivial rfl rfl rfl (fun _ h => by cases h) (fun _ h => by cases h) rfl
def ti80 : TI := ⟨false, 1, 8, .other, none, none, none⟩
theorem ti80_ok : TIok Tryd.prog 80 ti80 := TIok.none Tryd.underlying80 Tryd.type80 rfl trivial rfl rfl rfl (fun _ h => by cases h) (fun _ h => by cases h) rfl
def ti81 : TI := ⟨false, 1, 8, .other, none, none, none⟩
theorem ti81_ok : TIok Tryd.prog 81 ti81 := TIok.none Tryd.underlying81 Tryd.type81 rfl trivial rfl rfl rfl (fun _ h => by cases h) (fun _ h => by cases h) rfl
def ti82 : TI := ⟨false, 1, 8, .other, none, none, none⟩
theorem ti82_ok : TIok Tryd.prog 82 ti82 := TIok.none Tryd.underlying82 Tryd.type82 rfl trivial rfl rfl rfl (fun _ h => by cases h) (fun _ h => by cases h) rfl
def ti83 : TI := ⟨false, 1, 8, .other, none, none, none⟩
theorem ti83_ok : TIok Tryd.prog 83 ti83 := TIok.none Tryd.underlying83 Tryd.type83 rfl trivial rfl rfl rfl (fun _ h => by cases h) (fun _ h => by cases h) rfl
def ti85 : TI := ⟨false, 1, 8, .other, none, none, none⟩
theorem ti85_ok : TIok Tryd.prog 85 ti85 := TIok.none Tryd.underlying85 Tryd.type85 rfl trivial rfl rfl rfl (fun _ h => by cases h) (fun _ h => by cases h) rfl
def ti87 : TI := ⟨false, 1, 8, .other, none, none, none⟩
theorem ti87_ok : TIok Tryd.prog 87 ti87 := TIok.none Tryd.underlying87 Tryd.type87 rfl trivial rfl rfl rfl (fun _ h => by cases h) (fun _ h => by cases h) rfl
def ti88 : TI := ⟨false, 1, 8, .other, none, none, none⟩
theorem ti88_ok : TIok Tryd.prog 88 ti88 := TIok.none Tryd.underlying88 Tryd.type88 rfl trivial rfl rfl rfl (fun _ h => by cases h) (fun _ h => by cases h) rfl
def ti90 : TI := ⟨false, 1, 8, .other, none, none, none⟩
theorem ti90_ok : TIok Tryd.prog 90 ti90 := TIok.none Tryd.underlying90 Tryd.type90 rfl trivial rfl rfl rfl (fun _ h => by cases h) (fun _ h => by cases h) rfl
def ti91 : TI := ⟨false, 1, 8, .other, none, none, none⟩
theorem ti91_ok : TIok Tryd.prog 91 ti91 := TIok.none Tryd.underlying91 Tryd.type91 rfl trivial rfl rfl rfl (fun _ h => by cases h) (fun _ h => by cases h) rfl
def ti93 : TI := ⟨false, 1, 8, .other, none, none, none⟩
theorem ti93_ok : TIok Tryd.prog 93 ti93 := TIok.none Tryd.underlying93 Tryd.type93 rfl trivial rfl rfl rfl (fun _ h => by cases h) (fun _ h => by cases h) rfl
def ti94 : TI := ⟨false, 1, 8, .other, none, none, none⟩
theorem ti94_ok : TIok Tryd.prog 94 ti94 := TIok.none Tryd.underlying94 Tryd.type94 rfl trivial rfl rfl rfl (fun _ h => by cases h) (fun _ h => by cases h) rfl
def ti95 : TI := ⟨false, 1, 8, .other, none, none, none⟩
theorem ti95_ok : TIok Tryd.prog 95 ti95 := TIok.none Tryd.underlying95 Tryd.type95 rfl trivial rfl rfl rfl (fun _ h => by cases h) (fun _ h => by cases h) rfl
def ti97 : TI := ⟨false, 1, 8, .other, none, none, none⟩
theorem ti97_ok : TIok Tryd.prog 97 ti97 := TIok.none Tryd.underlying97 Tryd.type97 rfl trivial rfl rfl rfl (fun _ h => by cases h) (fun _ h => by cases h) rfl
def ti99 : TI := ⟨false, 1, 8, .other, none, none, none⟩
theorem ti99_ok : TIok Tryd.prog 99 ti99 := TIok.none Tryd.underlying99 Tryd.type99 rfl trivial rfl rfl rfl (fun _ h => by cases h) (fun _ h => by cases h) rfl
def ti100 : TI := ⟨false, 1, 8, .other, some [.cst (.pointer none)], none, none⟩
theorem ti100_ok : TIok Tryd.prog 100 ti100 := TIok.agg Tryd.underlying100 Tryd.type100 rfl trivial rfl rfl rfl rfl rfl rfl rfl (fun h => by first | rfl | (cases h; done)) (fun _ h => by cases h) (fun _ h => by cases h) (fun _ h => by cases h)
def ti101 : TI := ⟨false, 1, 24, .slice 5, some [.nil], none, none⟩
theorem ti101_ok : TIok Tryd.prog 101 ti101 := TIok.agg Tryd.underlying101 Tryd.type101 rfl (⟨rfl, by rw [show Tryd.prog.info? 5 = some Tryd.t5 from Tryd.type5]; rfl⟩) rfl rfl rfl rfl rfl rfl rfl (fun h => by first | rfl | (cases h; done)) (fun _ h => by cases h) (fun _ h => by cases h) (fun _ h => by cases h)
def ti102 : TI := ⟨true, 2, 32, .struct [(0, 100), (1, 101)], some [.cst (.pointer none), .nil], none, none⟩
theorem ti102_ok : TIok Tryd.prog 102 ti102 := TIok.agg Tryd.underlying102 Tryd.type102 rfl (⟨_, rfl, rfl, by simp [show Tryd.prog.info? 100 = some Tryd.t100 from Tryd.type100, show Tryd.prog.info? 101 = some Tryd.t101 from Tryd.type101]⟩) rfl rfl rfl rfl rfl rfl rfl (fun h => by first | rfl | (cases h; done)) (fun _ h => by cases h) (fun _ h => by cases h) (fun _ h => by cases h)
def ti103 : TI := ⟨true, 2, 32, .struct [(0, 100), (1, 101)], some [.fp, .nil], none, none⟩
theorem ti103_ok : TIok Tryd.prog 103 ti103 := TIok.agg Tryd.underlying103 Tryd.type103 rfl (⟨_, rfl, rfl, by simp [show Tryd.prog.info? 100 = some Tryd.t100 from Tryd.type100, show Tryd.prog.info? 101 = some Tryd.t101 from Tryd.type101]⟩) rfl rfl rfl rfl rfl rfl rfl (fun h => by first | rfl | (cases h; done)) (fun _ h => by cases h) (fun _ h => by cases h) (fun _ h => by cases h)
def ti104 : TI := ⟨false, 1, 8, .other, none, none, none⟩
theorem ti104_ok : TIok Tryd.prog 104 ti104 := TIok.none Tryd.underlying104 Tryd.type104 rfl trivial rfl rfl rfl (fun _ h => by cases h) (fun _ h => by cases h) rfl
def ti105 : TI := ⟨false, 1, 8, .other, none, none, none⟩
theorem ti105_ok : TIok Tryd.prog 105 ti105 := TIok.none Tryd.underlying105 Tryd.type105 rfl trivial rfl rfl rfl (fun _ h => by cases h) (fun _ h => by cases h) rfl
def ti106 : TI := ⟨false, 1, 8, .other, none, none, none⟩
theorem ti106_ok : TIok Tryd.prog 106 ti106 := TIok.none Tryd.underlying106 Tryd.type106 rfl trivial rfl rfl rfl (fun _ h => by cases h) (fun _ h => by cases h) rfl
def ti107 : TI := ⟨false, 1, 8, .other, none, none, none⟩
theorem ti107_ok : TIok Tryd.prog 107 ti107 := TIok.none Tryd.underlying107 Tryd.type107 rfl trivial rfl rfl rfl (fun _ h => by cases h) (fun _ h => by cases h) rfl
def ti108 : TI := ⟨false, 1, 8, .other, none, none, none⟩
theorem ti108_ok : TIok Tryd.prog 108 ti108 := TIok.none Tryd.underlying108 Tryd.type108 rfl trivial rfl rfl rfl (fun _ h => by cases h) (fun _ h => by cases h) rfl
def ti109 : TI := ⟨false, 1, 8, .other, none, none, none⟩
theorem ti109_ok : TIok Tryd.prog 109 ti109 := TIok.none Tryd.underlying109 Tryd.type109 rfl trivial rfl rfl rfl (fun _ h => by cases h) (fun _ h => by cases h) rfl
def ti110 : TI := ⟨false, 1, 8, .other, none, none, none⟩
theorem ti110_ok : TIok Tryd.prog 110 ti110 := TIok.none Tryd.underlying110 Tryd.type110 rfl trivial rfl rfl rfl (fun _ h => by cases h) (fun _ h => by cases h) rfl
def ti111 : TI := ⟨false, 1, 8, .other, none, none, none⟩
theorem ti111_ok : TIok Tryd.prog 111 ti111 := TIok.none Tryd.underlying111 Tryd.type111 rfl trivial rfl rfl rfl (fun _ h => by cases h) (fun _ h => by cases h) rfl
def ti112 : TI := ⟨true, 1, 8, .struct [(0, 26)], some [.int .i64 0], none, none⟩
theorem ti112_ok : TIok Tryd.prog 112 ti112 := TIok.agg Tryd.underlying112 Tryd.type112 rfl (⟨_, rfl, rfl, by simp [show Tryd.prog.info? 26 = some Tryd.t26 from Tryd.type26]⟩) rfl rfl rfl rfl rfl rfl rfl (fun h => by first | rfl | (cases h; done)) (fun _ h => by cases h) (fun _ h => by cases h) (fun _ h => by cases h)
def ti113 : TI := ⟨true, 1, 8, .struct [(0, 26)], some [.int .i64 0], none, none⟩
theorem ti113_ok : TIok Tryd.prog 113 ti113 := TIok.agg Tryd.underlying113 Tryd.type113 rfl (⟨_, rfl, rfl, by simp [show Tryd.prog.info? 26 = some Tryd.t26 from Tryd.type26]⟩) rfl rfl rfl rfl rfl rfl rfl (fun h => by first | rfl | (cases h; done)) (fun _ h => by cases h) (fun _ h => by cases h) (fun _ h => by cases h)
def ti115 : TI := ⟨false, 1, 8, .other, some [.cst (.pointer none)], none, none⟩
theorem ti115_ok : TIok Tryd.prog 115 ti115 := TIok.agg Tryd.underlying115 Tryd.type115 rfl trivial rfl rfl rfl rfl rfl rfl rfl (fun h => by first | rfl | (cases h; done)) (fun _ h => by cases h) (fun _ h => by cases h) (fun _ h => by cases h)
def ti116 : TI := ⟨true, 3, 32, .struct [(0, 9), (1, 3), (2, 3)], some [.str ⟨#[]⟩, .int .i64 0, .int .i64 0], none, none⟩
theorem ti116_ok : TIok Tryd.prog 116 ti116 := TIok.agg Tryd.underlying116 Tryd.type116 rfl (⟨_, rfl, rfl, by simp [show Tryd.prog.info? 3 = some Tryd.t3 from Tryd.type3, show Tryd.prog.info? 9 = some Tryd.t9 from Tryd.type9]⟩) rfl rfl rfl rfl rfl rfl rfl (fun h => by first | rfl | (cases h; done)) (fun _ h => by cases h) (fun _ h => by cases h) (fun _ h => by cases h)
def ti117 : TI := ⟨true, 3, 32, .struct [(0, 9), (1, 3), (2, 3)], some [.str ⟨#[]⟩, .int .i64 0, .int .i64 0], none, none⟩
theorem ti117_ok : TIok Tryd.prog 117 ti117 := TIok.agg Tryd.underlying117 Tryd.type117 rfl (⟨_, rfl, rfl, by simp [show Tryd.prog.info? 3 = some Tryd.t3 from Tryd.type3, show Tryd.prog.info? 9 = some Tryd.t9 from Tryd.type9]⟩) rfl rfl rfl rfl rfl rfl rfl (fun h => by first | rfl | (cases h; done)) (fun _ h => by cases h) (fun _ h => by cases h) (fun _ h => by cases h)
def ti121 : TI := ⟨false, 1, 8, .other, none, none, none⟩
theorem ti121_ok : TIok Tryd.prog 121 ti121 := TIok.none Tryd.underlying121 Tryd.type121 rfl trivial rfl rfl rfl (fun _ h => by cases h) (fun _ h => by cases h) rfl
def ti122 : TI := ⟨false, 1, 8, .other, none, none, none⟩
theorem ti122_ok : TIok Tryd.prog 122 ti122 := TIok.none Tryd.underlying122 Tryd.type122 rfl trivial rfl rfl rfl (fun _ h => by cases h) (fun _ h => by cases h) rfl
def ti123 : TI := ⟨false, 1, 8, .other, some [.cst (.pointer none)], none, none⟩
theorem ti123_ok : TIok Tryd.prog 123 ti123 := TIok.agg Tryd.underlying123 Tryd.type123 rfl trivial rfl rfl rfl rfl rfl rfl rfl (fun h => by first | rfl | (cases h; done)) (fun _ h => by cases h) (fun _ h => by cases h) (fun _ h => by cases h)
def ti124 : TI := ⟨true, 2, 16, .struct [(0, 3), (1, 4)], some [.int .i64 0, .bool false], none, none⟩
theorem ti124_ok : TIok Tryd.prog 124 ti124 := TIok.agg Tryd.underlying124 Tryd.type124 rfl (⟨_, rfl, rfl, by simp [show Tryd.prog.info? 3 = some Tryd.t3 from Tryd.type3, show Tryd.prog.info? 4 = some Tryd.t4 from Tryd.type4]⟩) rfl rfl rfl rfl rfl rfl rfl (fun h => by first | rfl | (cases h; done)) (fun _ h => by cases h) (fun _ h => by cases h) (fun _ h => by cases h)
def ti125 : TI := ⟨true, 2, 16, .struct [(0, 3), (1, 4)], some [.int .i64 0, .bool false], none, none⟩
theorem ti125_ok : TIok Tryd.prog 125 ti125 := TIok.agg Tryd.underlying125 Tryd.type125 rfl (⟨_, rfl, rfl, by simp [show Tryd.prog.info? 3 = some Tryd.t3 from Tryd.type3, show Tryd.prog.info? 4 = some Tryd.t4 from Tryd.type4]⟩) rfl rfl rfl rfl rfl rfl rfl (fun h => by first | rfl | (cases h; done)) (fun _ h => by cases h) (fun _ h => by cases h) (fun _ h => by cases h)
def ti126 : TI := ⟨false, 1, 8, .other, none, none, none⟩
theorem ti126_ok : TIok Tryd.prog 126 ti126 := TIok.none Tryd.underlying126 Tryd.type126 rfl trivial rfl rfl rfl (fun _ h => by cases h) (fun _ h => by cases h) rfl
def ti127 : TI := ⟨false, 1, 16, .iface, some [.cst .nilIface], none, none⟩
theorem ti127_ok : TIok Tryd.prog 127 ti127 := TIok.agg Tryd.underlying127 Tryd.type127 rfl (⟨_, rfl⟩) rfl rfl rfl rfl rfl rfl rfl (fun h => by first | rfl | (cases h; done)) (fun _ h => by cases h) (fun _ h => by cases h) (fun _ h => by cases h)
def ti128 : TI := ⟨false, 1, 16, .iface, some [.cst .nilIface], none, none⟩
theorem ti128_ok : TIok Tryd.prog 128 ti128 := TIok.agg Tryd.underlying128 Tryd.type128 rfl (⟨_, rfl⟩) rfl rfl rfl rfl rfl rfl rfl (fun h => by first | rfl | (cases h; done)) (fun _ h => by cases h) (fun _ h => by cases h) (fun _ h => by cases h)
def ti130 : TI := ⟨false, 1, 8, .other, none, none, none⟩
theorem ti130_ok : TIok Tryd.prog 130 ti130 := TIok.none Tryd.underlying130 Tryd.type130 rfl trivial rfl rfl rfl (fun _ h => by cases h) (fun _ h => by cases h) rfl
def ti131 : TI := ⟨false, 1, 8, .other, none, none, none⟩
theorem ti131_ok : TIok Tryd.prog 131 ti131 := TIok.none Tryd.underlying131 Tryd.type131 rfl trivial rfl rfl rfl (fun _ h => by cases h) (fun _ h => by cases h) rfl
def ti132 : TI := ⟨false, 1, 8, .other, some [.cst (.pointer none)], none, none⟩
theorem ti132_ok : TIok Tryd.prog 132 ti132 := TIok.agg Tryd.underlying132 Tryd.type132 rfl trivial rfl rfl rfl rfl rfl rfl rfl (fun h => by first | rfl | (cases h; done)) (fun _ h => by cases h) (fun _ h => by cases h) (fun _ h => by cases h)
def ti133 : TI := ⟨false, 1, 8, .other, none, none, none⟩
theorem ti133_ok : TIok Tryd.prog 133 ti133 := TIok.none Tryd.underlying133 Tryd.type133 rfl trivial rfl rfl rfl (fun _ h => by cases h) (fun _ h => by cases h) rfl
def ti134 : TI := ⟨false, 1, 8, .other, none, none, none⟩
theorem ti134_ok : TIok Tryd.prog 134 ti134 := TIok.none Tryd.underlying134 Tryd.type134 rfl trivial rfl rfl rfl (fun _ h => by cases h) (fun _ h => by cases h) rfl
def ti135 : TI := ⟨false, 1, 8, .other, none, none, none⟩
theorem ti135_ok : TIok Tryd.prog 135 ti135 := TIok.none Tryd.underlying135 Tryd.type135 rfl trivial rfl rfl rfl (fun _ h => by cases h) (fun _ h => by cases h) rfl
def ti136 : TI := ⟨true, 24, 24, .array 24 5, some [.int .u8 0, .int .u8 0, .int .u8 0, .int .u8 0, .int .u8 0, .int .u8 0, .int .u8 0, .int .u8 0, .int .u8 0, .int .u8 0, .int .u8 0, .int .u8 0, .int .u8 0, .int .u8 0, .int .u8 0, .int .u8 0, .int .u8 0, .int .u8 0, .int .u8 0, .int .u8 0, .int .u8 0, .int .u8 0, .int .u8 0, .int .u8 0], none, none⟩
theorem ti136_ok : TIok Tryd.prog 136 ti136 := TIok.agg Tryd.underlying136 Tryd.type136 rfl rfl rfl rfl rfl rfl rfl rfl rfl (fun h => by first | rfl | (cases h; done)) (fun _ h => by cases h) (fun _ h => by cases h) (fun _ h => by cases h)
def ti137 : TI := ⟨false, 1, 8, .int .u64, some [.int .u64 0], none, none⟩
theorem ti137_ok : TIok Tryd.prog 137 ti137 := TIok.agg Tryd.underlying137 Tryd.type137 rfl rfl rfl rfl rfl rfl rfl rfl rfl (fun h => by first | rfl | (cases h; done)) (fun _ h => by cases h) (fun _ h => by cases h) (fun _ h => by cases h)
def ti138 : TI := ⟨false, 1, 8, .other, none, none, none⟩
theorem ti138_ok : TIok Tryd.prog 138 ti138 := TIok.none Tryd.underlying138 Tryd.type138 rfl trivial rfl rfl rfl (fun _ h => by cases h) (fun _ h => by cases h) rfl
def ti139 : TI := ⟨false, 1, 8, .other, none, none, none⟩
theorem ti139_ok : TIok Tryd.prog 139 ti139 := TIok.none Tryd.underlying139 Tryd.type139 rfl trivial rfl rfl rfl (fun _ h => by cases h) (fun _ h => by cases h) rfl
def ti141 : TI := ⟨false, 1, 8, .other, none, none, none⟩
theorem ti141_ok : TIok Tryd.prog 141 ti141 := TIok.none Tryd.underlying141 Tryd.type141 rfl trivial rfl rfl rfl (fun _ h => by cases h) (fun _ h => by cases h) rfl
def ti142 : TI := ⟨false, 1, 8, .other, none, none, none⟩
theorem ti142_ok : TIok Tryd.prog 142 ti142 := TIok.none Tryd.underlying142 Tryd.type142 rfl trivial rfl rfl rfl (fun _ h => by cases h) (fun _ h => by cases h) rfl
def ti143 : TI := ⟨false, 1, 8, .other, none, none, none⟩
theorem ti143_ok : TIok Tryd.prog 143 ti143 := TIok.none Tryd.underlying143 Tryd.type143 rfl trivial rfl rfl rfl (fun _ h => by cases h) (fun _ h => by cases h) rfl
def ti144 : TI := ⟨false, 1, 8, .other, none, none, none⟩
theorem ti144_ok : TIok Tryd.prog 144 ti144 := TIok.none Tryd.underlying144 Tryd.type144 rfl trivial rfl rfl rfl (fun _ h => by cases h) (fun _ h => by cases h) rfl
def ti145 : TI := ⟨false, 1, 8, .other, none, none, none⟩
theorem ti145_ok : TIok Tryd.prog 145 ti145 := TIok.none Tryd.underlying145 Tryd.type145 rfl trivial rfl rfl rfl (fun _ h => by cases h) (fun _ h => by cases h) rfl
def ti146 : TI := ⟨true, 20, 160, .array 20 137, some [.int .u64 0, .int .u64 0, .int .u64 0, .int .u64 0, .int .u64 0, .int .u64 0, .int .u64 0, .int .u64 0, .int .u64 0, .int .u64 0, .int .u64 0, .int .u64 0, .int .u64 0, .int .u64 0, .int .u64 0, .int .u64 0, .int .u64 0, .int .u64 0, .int .u64 0, .int .u64 0], none, none⟩
theorem ti146_ok : TIok Tryd.prog 146 ti146 := TIok.agg Tryd.underlying146 Tryd.type146 rfl rfl rfl rfl rfl rfl rfl rfl rfl (fun h => by first | rfl | (cases h; done)) (fun _ h => by cases h) (fun _ h => by cases h) (fun _ h => by cases h)
def ti147 : TI := ⟨false, 1, 4, .int .u32, some [.int .u32 0], none, none⟩
theorem ti147_ok : TIok Tryd.prog 147 ti147 := TIok.agg Tryd.underlying147 Tryd.type147 rfl rfl rfl rfl rfl rfl rfl rfl rfl (fun h => by first | rfl | (cases h; done)) (fun _ h => by cases h) (fun _ h => by cases h) (fun _ h => by cases h)
def ti148 : TI := ⟨true, 65, 65, .array 65 5, none, none, none⟩
theorem ti148_ok : TIok Tryd.prog 148 ti148 := TIok.none Tryd.underlying148 Tryd.type148 rfl rfl rfl rfl rfl (fun _ h => by cases h) (fun _ h => by cases h) rfl
def ti149 : TI := ⟨false, 1, 8, .int .u64, some [.int .u64 0], none, none⟩
theorem ti149_ok : TIok Tryd.prog 149 ti149 := TIok.agg Tryd.underlying149 Tryd.type149 rfl rfl rfl rfl rfl rfl rfl rfl rfl (fun h => by first | rfl | (cases h; done)) (fun _ h => by cases h) (fun _ h => by cases h) (fun _ h => by cases h)
def ti150 : TI := ⟨false, 1, 8, .other, none, none, none⟩
theorem ti150_ok : TIok Tryd.prog 150 ti150 := TIok.none Tryd.underlying150 Tryd.type150 rfl trivial rfl rfl rfl (fun _ h => by cases h) (fun _ h => by cases h) rfl
def ti152 : TI := ⟨false, 1, 8, .other, none, none, none⟩
theorem ti152_ok : TIok Tryd.prog 152 ti152 := TIok.none Tryd.underlying152 Tryd.type152 rfl trivial rfl rfl rfl (fun _ h => by cases h) (fun _ h => by cases h) rfl
def ti153 : TI := ⟨false, 1, 8, .int .i64, some [.int .i64 0], none, none⟩
theorem ti153_ok : TIok Tryd.prog 153 ti153 := TIok.agg Tryd.underlying153 Tryd.type153 rfl rfl rfl rfl rfl rfl rfl rfl rfl (fun h => by first | rfl | (cases h; done)) (fun _ h => by cases h) (fun _ h => by cases h) (fun _ h => by cases h)
def ti155 : TI := ⟨false, 1, 8, .other, none, none, none⟩
theorem ti155_ok : TIok Tryd.prog 155 ti155 := TIok.none Tryd.underlying155 Tryd.type155 rfl trivial rfl rfl rfl (fun _ h => by cases h) (fun _ h => by cases h) rfl
def ti156 : TI := ⟨false, 1, 8, .other, some [.cst (.pointer none)], none, none⟩
theorem ti156_ok : TIok Tryd.prog 156 ti156 := TIok.agg Tryd.underlying156 Tryd.type156 rfl trivial rfl rfl rfl rfl rfl rfl rfl (fun h => by first | rfl | (cases h; done)) (fun _ h => by cases h) (fun _ h => by cases h) (fun _ h => by cases h)
def ti157 : TI := ⟨false, 1, 8, .other, none, none, none⟩
theorem ti157_ok : TIok Tryd.prog 157 ti157 := TIok.none Tryd.underlying157 Tryd.type157 rfl trivial rfl rfl rfl (fun _ h => by cases h) (fun _ h => by cases h) rfl
def ti158 : TI := ⟨false, 1, 8, .other, none, none, none⟩
theorem ti158_ok : TIok Tryd.prog 158 ti158 := TIok.none Tryd.underlying158 Tryd.type158 rfl trivial rfl rfl rfl (fun _ h => by cases h) (fun _ h => by cases h) rfl
def ti159 : TI := ⟨false, 1, 8, .other, none, none, none⟩
theorem ti159_ok : TIok Tryd.prog 159 ti159 := TIok.none Tryd.underlying159 Tryd.type159 rfl trivial rfl rfl rfl (fun _ h => by cases h) (fun _ h => by cases h) rfl
def ti160 : TI := ⟨false, 1, 8, .other, none, none, none⟩
theorem ti160_ok : TIok Tryd.prog 160 ti160 := TIok.none Tryd.underlying160 Tryd.type160 rfl trivial rfl rfl rfl (fun _ h => by cases h) (fun _ h => by cases h) rfl
def ti162 : TI := ⟨false, 1, 8, .other, none, none, none⟩
theorem ti162_ok : TIok Tryd.prog 162 ti162 := TIok.none Tryd.underlying162 Tryd.type162 rfl trivial rfl rfl rfl (fun _ h => by cases h) (fun _ h => by cases h) rfl
def ti163 : TI := ⟨false, 1, 8, .other, none, none, none⟩
theorem ti163_ok : TIok Tryd.prog 163 ti163 := TIok.none Tryd.underlying163 Tryd.type163 rfl trivial rfl rfl rfl (fun _ h => by cases h) (fun _ h => by cases h) rfl
def ti164 : TI := ⟨true, 3, 48, .struct [(0, 9), (1, 9), (2, 128)], some [.str ⟨#[]⟩, .str ⟨#[]⟩, .cst .nilIface], none, none⟩
theorem ti164_ok : TIok Tryd.prog 164 ti164 := TIok.agg Tryd.underlying164 Tryd.type164 rfl (⟨_, rfl, rfl, by simp [show Tryd.prog.info? 9 = some Tryd.t9 from Tryd.type9, show Tryd.prog.info? 128 = some Tryd.t128 from Tryd.type128]⟩) rfl rfl rfl rfl rfl rfl rfl (fun h => by first | rfl | (cases h; done)) (fun _ h => by cases h) (fun _ h => by cases h) (fun _ h => by cases h)
def ti165 : TI := ⟨true, 3, 48, .struct [(0, 9), (1, 9), (2, 128)], some [.str ⟨#[]⟩, .str ⟨#[]⟩, .cst .nilIface], none, none⟩
theorem ti165_ok : TIok Tryd.prog 165 ti165 := TIok.agg Tryd.underlying165 Tryd.type165 rfl (⟨_, rfl, rfl, by simp [show Tryd.prog.info? 9 = some Tryd.t9 from Tryd.type9, show Tryd.prog.info? 128 = some Tryd.t128 from Tryd.type128]⟩) rfl rfl rfl rfl rfl rfl rfl (fun h => by first | rfl | (cases h; done)) (fun _ h => by cases h) (fun _ h => by cases h) (fun _ h => by cases h)
def ti166 : TI := ⟨false, 1, 8, .other, none, none, none⟩
theorem ti166_ok : TIok Tryd.prog 166 ti166 := TIok.none Tryd.underlying166 Tryd.type166 rfl trivial rfl rfl rfl (fun _ h => by cases h) (fun _ h => by cases h) rfl
def ti167 : TI := ⟨true, 64, 64, .array 64 5, none, none, none⟩
theorem ti167_ok : TIok Tryd.prog 167 ti167 := TIok.none Tryd.underlying167 Tryd.type167 rfl rfl rfl rfl rfl (fun _ h => by cases h) (fun _ h => by cases h) rfl
def ti168 : TI := ⟨false, 1, 8, .other, none, none, none⟩
theorem ti168_ok : TIok Tryd.prog 168 ti168 := TIok.none Tryd.underlying168 Tryd.type168 rfl trivial rfl rfl rfl (fun _ h => by cases h) (fun _ h => by cases h) rfl
def ti169 : TI := ⟨false, 1, 8, .other, some [.cst (.pointer none)], none, none⟩
theorem ti169_ok : TIok Tryd.prog 169 ti169 := TIok.agg Tryd.underlying169 Tryd.type169 rfl trivial rfl rfl rfl rfl rfl rfl rfl (fun h => by first | rfl | (cases h; done)) (fun _ h => by cases h) (fun _ h => by cases h) (fun _ h => by cases h)
def ti170 : TI := ⟨true, 1, 16, .struct [(0, 9)], some [.str ⟨#[]⟩], none, none⟩
theorem ti170_ok : TIok Tryd.prog 170 ti170 := TIok.agg Tryd.underlying170 Tryd.type170 rfl (⟨_, rfl, rfl, by simp [show Tryd.prog.info? 9 = some Tryd.t9 from Tryd.type9]⟩) rfl rfl rfl rfl rfl rfl rfl (fun h => by first | rfl | (cases h; done)) (fun _ h => by cases h) (fun _ h => by cases h) (fun _ h => by cases h)
def ti171 : TI := ⟨true, 1, 16, .struct [(0, 9)], some [.str ⟨#[]⟩], none, none⟩
theorem ti171_ok : TIok Tryd.prog 171 ti171 := TIok.agg Tryd.underlying171 Tryd.type171 rfl (⟨_, rfl, rfl, by simp [show Tryd.prog.info? 9 = some Tryd.t9 from Tryd.type9]⟩) rfl rfl rfl rfl rfl rfl rfl (fun h => by first | rfl | (cases h; done)) (fun _ h => by cases h) (fun _ h => by cases h) (fun _ h => by cases h)
def ti172 : TI := ⟨true, 4, 40, .struct [(0, 17), (1, 17), (2, 17), (3, 9)], some [.cst (.pointer none), .cst (.pointer none), .cst (.pointer none), .str ⟨#[]⟩], none, none⟩
theorem ti172_ok : TIok Tryd.prog 172 ti172 := TIok.agg Tryd.underlying172 Tryd.type172 rfl (⟨_, rfl, rfl, by simp [show Tryd.prog.info? 9 = some Tryd.t9 from Tryd.type9, show Tryd.prog.info? 17 = some Tryd.t17 from Tryd.type17]⟩) rfl rfl rfl rfl rfl rfl rfl (fun h => by first | rfl | (cases h; done)) (fun _ h => by cases h) (fun _ h => by cases h) (fun _ h => by cases h)
def ti173 : TI := ⟨true, 4, 40, .struct [(0, 17), (1, 17), (2, 17), (3, 9)], some [.cst (.pointer none), .cst (.pointer none), .cst (.pointer none), .str ⟨#[]⟩], none, none⟩
theorem ti173_ok : TIok Tryd.prog 173 ti173 := TIok.agg Tryd.underlying173 Tryd.type173 rfl (⟨_, rfl, rfl, by simp [show Tryd.prog.info? 9 = some Tryd.t9 from Tryd.type9, show Tryd.prog.info? 17 = some Tryd.t17 from Tryd.type17]⟩) rfl rfl rfl rfl rfl rfl rfl (fun h => by first | rfl | (cases h; done)) (fun _ h => by cases h) (fun _ h => by cases h) (fun _ h => by cases h)
def ti174 : TI := ⟨true, 0, 0, .array 0 16, some [], none, none⟩
theorem ti174_ok : TIok Tryd.prog 174 ti174 := TIok.agg Tryd.underlying174 Tryd.type174 rfl rfl rfl rfl rfl rfl rfl rfl rfl (fun h => by first | rfl | (cases h; done)) (fun _ h => by cases h) (fun _ h => by cases h) (fun _ h => by cases h)
def ti175 : TI := ⟨true, 0, 0, .struct [(0, 174)], some [], none, none⟩
theorem ti175_ok : TIok Tryd.prog 175 ti175 := TIok.agg Tryd.underlying175 Tryd.type175 rfl (⟨_, rfl, rfl, by simp [show Tryd.prog.info? 174 = some Tryd.t174 from Tryd.type174]⟩) rfl rfl rfl rfl rfl rfl rfl (fun h => by first | rfl | (cases h; done)) (fun _ h => by cases h) (fun _ h => by cases h) (fun _ h => by cases h)
def ti176 : TI := ⟨true, 0, 0, .struct [(0, 174)], some [], none, none⟩
theorem ti176_ok : TIok Tryd.prog 176 ti176 := TIok.agg Tryd.underlying176 Tryd.type176 rfl (⟨_, rfl, rfl, by simp [show Tryd.prog.info? 174 = some Tryd.t174 from Tryd.type174]⟩) rfl rfl rfl rfl rfl rfl rfl (fun h => by first | rfl | (cases h; done)) (fun _ h => by cases h) (fun _ h => by cases h) (fun _ h => by cases h)
def ti177 : TI := ⟨false, 1, 1, .int .u8, some [.int .u8 0], none, none⟩
theorem ti177_ok : TIok Tryd.prog 177 ti177 := TIok.agg Tryd.underlying177 Tryd.type177 rfl rfl rfl rfl rfl rfl rfl rfl rfl (fun h => by first | rfl | (cases h; done)) (fun _ h => by cases h) (fun _ h => by cases h) (fun _ h => by cases h)
def ti178 : TI := ⟨false, 1, 1, .int .u8, some [.int .u8 0], none, none⟩
theorem ti178_ok : TIok Tryd.prog 178 ti178 := TIok.agg Tryd.underlying178 Tryd.type178 rfl rfl rfl rfl rfl rfl rfl rfl rfl (fun h => by first | rfl | (cases h; done)) (fun _ h => by cases h) (fun _ h => by cases h) (fun _ h => by cases h)
def ti179 : TI := ⟨false, 1, 8, .other, none, none, none⟩
theorem ti179_ok : TIok Tryd.prog 179 ti179 := TIok.none Tryd.underlying179 Tryd.type179 rfl trivial rfl rfl rfl (fun _ h => by cases h) (fun _ h => by cases h) rfl
def ti180 : TI := ⟨false, 1, 4, .int .i32, some [.int .i32 0], none, none⟩
theorem ti180_ok : TIok Tryd.prog 180 ti180 := TIok.agg Tryd.underlying180 Tryd.type180 rfl rfl rfl rfl rfl rfl rfl rfl rfl (fun h => by first | rfl | (cases h; done)) (fun _ h => by cases h) (fun _ h => by cases h) (fun _ h => by cases h)
def ti181 : TI := ⟨false, 1, 4, .int .i32, some [.int .i32 0], none, none⟩
theorem ti181_ok : TIok Tryd.prog 181 ti181 := TIok.agg Tryd.underlying181 Tryd.type181 rfl rfl rfl rfl rfl rfl rfl rfl rfl (fun h => by first | rfl | (cases h; done)) (fun _ h => by cases h) (fun _ h => by cases h) (fun _ h => by cases h)
def ti182 : TI := ⟨true, 11, 48, .struct [(0, 12), (1, 12), (2, 147), (3, 177), (4, 5), (5, 5), (6, 178), (7, 179), (8, 132), (9, 180), (10, 181)], none, none, none⟩
theorem ti182_ok : TIok Tryd.prog 182 ti182 := TIok.none Tryd.underlying182 Tryd.type182 rfl (⟨_, rfl, rfl, by simp [show Tryd.prog.info? 5 = some Tryd.t5 from Tryd.type5, show Tryd.prog.info? 12 = some Tryd.t12 from Tryd.type12, show Tryd.prog.info? 132 = some Tryd.t132 from Tryd.type132, show Tryd.prog.info? 147 = some Tryd.t147 from Tryd.type147, show Tryd.prog.info? 177 = some Tryd.t177 from Tryd.type177, show Tryd.prog.info? 178 = some Tryd.t178 from Tryd.type178, show Tryd.prog.info? 179 = some Tryd.t179 from Tryd.type179, show Tryd.prog.info? 180 = some Tryd.t180 from Tryd.type180, show Tryd.prog.info? 181 = some Tryd.t181 from Tryd.type181]⟩) rfl rfl rfl (fun _ h => by cases h) (fun _ h => by cases h) rfl
def ti183 : TI := ⟨true, 11, 48, .struct [(0, 12), (1, 12), (2, 147), (3, 177), (4, 5), (5, 5), (6, 178), (7, 179), (8, 132), (9, 180), (10, 181)], none, none, none⟩
theorem ti183_ok : TIok Tryd.prog 183 ti183 := TIok.none Tryd.underlying183 Tryd.type183 rfl (⟨_, rfl, rfl, by simp [show Tryd.prog.info? 5 = some Tryd.t5 from Tryd.type5, show Tryd.prog.info? 12 = some Tryd.t12 from Tryd.type12, show Tryd.prog.info? 132 = some Tryd.t132 from Tryd.type132, show Tryd.prog.info? 147 = some Tryd.t147 from Tryd.type147, show Tryd.prog.info? 177 = some Tryd.t177 from Tryd.type177, show Tryd.prog.info? 178 = some Tryd.t178 from Tryd.type178, show Tryd.prog.info? 179 = some Tryd.t179 from Tryd.type179, show Tryd.prog.info? 180 = some Tryd.t180 from Tryd.type180, show Tryd.prog.info? 181 = some Tryd.t181 from Tryd.type181]⟩) rfl rfl rfl (fun _ h => by cases h) (fun _ h => by cases h) rfl
def D : TD := [(1, ti1), (2, ti2), (3, ti3), (4, ti4), (5, ti5), (6, ti6), (7, ti7), (8, ti8), (9, ti9), (10, ti10), (11, ti11), (12, ti12), (13, ti13), (14, ti14), (15, ti15), (16, ti16), (17, ti17), (18, ti18), (19, ti19), (20, ti20), (21, ti21), (22, ti22), (23, ti23), (24, ti24), (25, ti25), (26, ti26), (28, ti28), (29, ti29), (30, ti30), (31, ti31), (32, ti32), (33, ti33), (34, ti34), (35, ti35), (36, ti36), (37, ti37), (39, ti39), (40, ti40), (41, ti41), (42, ti42), (43, ti43), (44, ti44), (45, ti45), (46, ti46), (48, ti48), (49, ti49), (50, ti50), (51, ti51), (52, ti52), (53, ti53), (54, ti54), (55, ti55), (56, ti56), (57, ti57), (58, ti58), (59, ti59), (61, ti61), (62, ti62), (63, ti63), (64, ti64), (65, ti65), (66, ti66), (67, ti67), (68, ti68), (70, ti70), (71, ti71), (72, ti72), (73, ti73), (74, ti74), (75, ti75), (76, ti76), (77, ti77), (78, ti78), (79, ti79), (80, ti80), (81, ti81), (82, ti82), (83, ti83), (85, ti85), (87, ti87), (88, ti88), (90, ti90), (91, ti91), (93, ti93), (94, ti94), (95, ti95), (97, ti97), (99, ti99), (100, ti100), (101, ti101), (102, ti102), (103, ti103), (104, ti104), (105, ti105), (106, ti106), (107, ti107), (108, ti108), (109, ti109), (110, ti110), (111, ti111), (112, ti112), (113, ti113), (115, ti115), (116, ti116), (117, ti117), (121, ti121), (122, ti122), (123, ti123), (124, ti124), (125, ti125), (126, ti126), (127, ti127), (128, ti128), (130, ti130), (131, ti131), (132, ti132), (133, ti133), (134, ti134), (135, ti135), (136, ti136), (137, ti137), (138, ti138), (139, ti139), (141, ti141), (142, ti142), (143, ti143), (144, ti144), (145, ti145), (146, ti146), (147, ti147), (148, ti148), (149, ti149), (150, ti150), (152, ti152), (153, ti153), (155, ti155), (156, ti156), (157, ti157), (158, ti158), (159, ti159), (160, ti160), (162, ti162), (163, ti163), (164, ti164), (165, ti165), (166, ti166), (167, ti167), (168, ti168), (169, ti169), (170, ti170), (171, ti171), (172, ti172), (173, ti173), (174, ti174), (175, ti175), (176, ti176), (177, ti177), (178, ti178), (179, ti179), (180, ti180), (181, ti181), (182, ti182), (183, ti183)]
theorem D_ok : TDok Tryd.prog D := by
  intro t ti h
  unfold D at h
  rw [tyOf] at h
  split at h
  · rename_i e; subst e; cases h; exact ti1_ok
  rw [tyOf] at h
  split at h
  · rename_i e; subst e; cases h; exact ti2_ok
  rw [tyOf] at h
  split at h
  · rename_i e; subst e; cases h; exact ti3_ok
  rw [tyOf] at h
  split at h
  · rename_i e; subst e; cases h; exact ti4_ok
  rw [tyOf] at h
  split at h
  · rename_i e; subst e; cases h; exact ti5_ok
  rw [tyOf] at h
  split at h
  · rename_i e; subst e; cases h; exact ti6_ok
  rw [tyOf] at h
  split at h
  · rename_i e; subst e; cases h; exact ti7_ok
  rw [tyOf] at h
  split at h
  · rename_i e; subst e; cases h; exact ti8_ok
  rw [tyOf] at h
  split at h
  · rename_i e; subst e; cases h; exact ti9_ok
  rw [tyOf] at h
  split at h
  · rename_i e; subst e; cases h; exact ti10_ok
  rw [tyOf] at h
  split at h
  · rename_i e; subst e; cases h; exact ti11_ok
  rw [tyOf] at h
  split at h
  · rename_i e; subst e; cases h; exact ti12_ok
  rw [tyOf] at h
  split at h
  · rename_i e; subst e; cases h; exact ti13_ok
  rw [tyOf] at h
  split at h
  · rename_i e; subst e; cases h; exact ti14_ok
  rw [tyOf] at h
  split at h
  · rename_i e; subst e; cases h; exact ti15_ok
  rw [tyOf] at h
  split at h
  · rename_i e; subst e; cases h; exact ti16_ok
  rw [tyOf] at h
  split at h
  · rename_i e; subst e; cases h; exact ti17_ok
  rw [tyOf] at h
  split at h
  · rename_i e; subst e; cases h; exact ti18_ok
  rw [tyOf] at h
  split at h
  · rename_i e; subst e; cases h; exact ti19_ok
  rw [tyOf] at h
  split at h
  · rename_i e; subst e; cases h; exact ti20_ok
  rw [tyOf] at h
  split at h
  · rename_i e; subst e; cases h; exact ti21_ok
  rw [tyOf] at h
  split at h
  · rename_i e; subst e; cases h; exact ti22_ok
  rw [tyOf] at h
  split at h
  · rename_i e; subst e; cases h; exact ti23_ok
  rw [tyOf] at h
  split at h
  · rename_i e; subst e; cases h; exact ti24_ok
  rw [tyOf] at h
  split at h
  · rename_i e; subst e; cases h; exact ti25_ok
  rw [tyOf] at h
  split at h
  · rename_i e; subst e; cases h; exact ti26_ok
  rw [tyOf] at h
  split at h
  · rename_i e; subst e; cases h; exact ti28_ok
  rw [tyOf] at h
  split at h
  · rename_i e; subst e; cases h; exact ti29_ok
  rw [tyOf] at h
  split at h
  · rename_i e; subst e; cases h; exact ti30_ok
  rw [tyOf] at h
  split at h
  · rename_i e; subst e; cases h; exact ti31_ok
  rw [tyOf] at h
  split at h
  · rename_i e; subst e; cases h; exact ti32_ok
  rw [tyOf] at h
  split at h
  · rename_i e; subst e; cases h; exact ti33_ok
  rw [tyOf] at h
  split at h
  · rename_i e; subst e; cases h; exact ti34_ok
  rw [tyOf] at h
  split at h
  · rename_i e; subst e; cases h; exact ti35_ok
  rw [tyOf] at h
  split at h
  · rename_i e; subst e; cases h; exact ti36_ok
  rw [tyOf] at h
  split at h
  · rename_i e; subst e; cases h; exact ti37_ok
  rw [tyOf] at h
  split at h
  · rename_i e; subst e; cases h; exact ti39_ok
  rw [tyOf] at h
  split at h
  · rename_i e; subst e; cases h; exact ti40_ok
  rw [tyOf] at h
  split at h
  · rename_i e; subst e; cases h; exact ti41_ok
  rw [tyOf] at h
  split at h
  · rename_i e; subst e; cases h; exact ti42_ok
  rw [tyOf] at h
  split at h
  · rename_i e; subst e; cases h; exact ti43_ok
  rw [tyOf] at h
  split at h
  · rename_i e; subst e; cases h; exact ti44_ok
  rw [tyOf] at h
  split at h
  · rename_i e; subst e; cases h; exact ti45_ok
  rw [tyOf] at h
  split at h
  · rename_i e; subst e; cases h; exact ti46_ok
  rw [tyOf] at h
  split at h
  · rename_i e; subst e; cases h; exact ti48_ok
  rw [tyOf] at h
  split at h
  · rename_i e; subst e; cases h; exact ti49_ok
  rw [tyOf] at h
  split at h
  · rename_i e; subst e; cases h; exact ti50_ok
  rw [tyOf] at h
  split at h
  · rename_i e; subst e; cases h; exact ti51_ok
  rw [tyOf] at h
  split at h
  · rename_i e; subst e; cases h; exact ti52_ok
  rw [tyOf] at h
  split at h
  · rename_i e; subst e; cases h; exact ti53_ok
  rw [tyOf] at h
  split at h
  · rename_i e; subst e; cases h; exact ti54_ok
  rw [tyOf] at h
  split at h
  · rename_i e; subst e; cases h; exact ti55_ok
  rw [tyOf] at h
  split at h
  · rename_i e; subst e; cases h; exact ti56_ok
  rw [tyOf] at h
  split at h
  · rename_i e; subst e; cases h; exact ti57_ok
  rw [tyOf] at h
  split at h
  · rename_i e; subst e; cases h; exact ti58_ok
  rw [tyOf] at h
  split at h
  · rename_i e; subst e; cases h; exact ti59_ok
  rw [tyOf] at h
  split at h
  · rename_i e; subst e; cases h; exact ti61_ok
  rw [tyOf] at h
  split at h
  · rename_i e; subst e; cases h; exact ti62_ok
  rw [tyOf] at h
  split at h
  · rename_i e; subst e; cases h; exact ti63_ok
  rw [tyOf] at h
  split at h
  · rename_i e; subst e; cases h; exact ti64_ok
  rw [tyOf] at h
  split at h
  · rename_i e; subst e; cases h; exact ti65_ok
  rw [tyOf] at h
  split at h
  · rename_i e; subst e; cases h; exact ti66_ok
  rw [tyOf] at h
  split at h
  · rename_i e; subst e; cases h; exact ti67_ok
  rw [tyOf] at h
  split at h
  · rename_i e; subst e; cases h; exact ti68_ok
  rw [tyOf] at h
  split at h
  · rename_i e; subst e; cases h; exact ti70_ok
  rw [tyOf] at h
  split at h
  · rename_i e; subst e; cases h; exact ti71_ok
  rw [tyOf] at h
  split at h
  · rename_i e; subst e; cases h; exact ti72_ok
  rw [tyOf] at h
  split at h
  · rename_i e; subst e; cases h; exact ti73_ok
  rw [tyOf] at h
  split at h
  · rename_i e; subst e; cases h; exact ti74_ok
  rw [tyOf] at h
  split at h
  · rename_i e; subst e; cases h; exact ti75_ok
  rw [tyOf] at h
  split at h
  · rename_i e; subst e; cases h; exact ti76_ok
  rw [tyOf] at h
  split at h
  · rename_i e; subst e; cases h; exact ti77_ok
  rw [tyOf] at h
  split at h
  · rename_i e; subst e; cases h; exact ti78_ok
  rw [tyOf] at h
  split at h
  · rename_i e; subst e; cases h; exact ti79_ok
  rw [tyOf] at h
  split at h
  · rename_i e; subst e; cases h; exact ti80_ok
  rw [tyOf] at h
  split at h
  · rename_i e; subst e; cases h; exact ti81_ok
  rw [tyOf] at h
  split at h
  · rename_i e; subst e; cases h; exact ti82_ok
  rw [tyOf] at h
  split at h
  · rename_i e; subst e; cases h; exact ti83_ok
  rw [tyOf] at h
  split at h
  · rename_i e; subst e; cases h; exact ti85_ok
  rw [tyOf] at h
  split at h
  · rename_i e; subst e; cases h; exact ti87_ok
  rw [tyOf] at h
  split at h
  · rename_i e; subst e; cases h; exact ti88_ok
  rw [tyOf] at h
  split at h
  · rename_i e; subst e; cases h; exact ti90_ok
  rw [tyOf] at h
  split at h
  · rename_i e; subst e; cases h; exact ti91_ok
  rw [tyOf] at h
  split at h
  · rename_i e; subst e; cases h; exact ti93_ok
  rw [tyOf] at h
  split at h
  · rename_i e; subst e; cases h; exact ti94_ok
  rw [tyOf] at h
  split at h
  · rename_i e; subst e; cases h; exact ti95_ok
  rw [tyOf] at h
  split at h
  · rename_i e; subst e; cases h; exact ti97_ok
  rw [tyOf] at h
  split at h
  · rename_i e; subst e; cases h; exact ti99_ok
  rw [tyOf] at h
  split at h
  · rename_i e; subst e; cases h; exact ti100_ok
  rw [tyOf] at h
  split at h
  · rename_i e; subst e; cases h; exact ti101_ok
  rw [tyOf] at h
  split at h
  · rename_i e; subst e; cases h; exact ti102_ok
  rw [tyOf] at h
  split at h
  · rename_i e; subst e; cases h; exact ti103_ok
  rw [tyOf] at h
  split at h
  · rename_i e; subst e; cases h; exact ti104_ok
  rw [tyOf] at h
  split at h
  · rename_i e; subst e; cases h; exact ti105_ok
  rw [tyOf] at h
  split at h
  · rename_i e; subst e; cases h; exact ti106_ok
  rw [tyOf] at h
  split at h
  · rename_i e; subst e; cases h; exact ti107_ok
  rw [tyOf] at h
  split at h
  · rename_i e; subst e; cases h; exact ti108_ok
  rw [tyOf] at h
  split at h
  · rename_i e; subst e; cases h; exact ti109_ok
  rw [tyOf] at h
  split at h
  · rename_i e; subst e; cases h; exact ti110_ok
  rw [tyOf] at h
  split at h
  · rename_i e; subst e; cases h; exact ti111_ok
  rw [tyOf] at h
  split at h
  · rename_i e; subst e; cases h; exact ti112_ok
  rw [tyOf] at h
  split at h
  · rename_i e; subst e; cases h; exact ti113_ok
  rw [tyOf] at h
  split at h
  · rename_i e; subst e; cases h; exact ti115_ok
  rw [tyOf] at h
  split at h
  · rename_i e; subst e; cases h; exact ti116_ok
  rw [tyOf] at h
  split at h
  · rename_i e; subst e; cases h; exact ti117_ok
  rw [tyOf] at h
  split at h
  · rename_i e; subst e; cases h; exact ti121_ok
  rw [tyOf] at h
  split at h
  · rename_i e; subst e; cases h; exact ti122_ok
  rw [tyOf] at h
  split at h
  · rename_i e; subst e; cases h; exact ti123_ok
  rw [tyOf] at h
  split at h
  · rename_i e; subst e; cases h; exact ti124_ok
  rw [tyOf] at h
  split at h
  · rename_i e; subst e; cases h; exact ti125_ok
  rw [tyOf] at h
  split at h
  · rename_i e; subst e; cases h; exact ti126_ok
  rw [tyOf] at h
  split at h
  · rename_i e; subst e; cases h; exact ti127_ok
  rw [tyOf] at h
  split at h
  · rename_i e; subst e; cases h; exact ti128_ok
  rw [tyOf] at h
  split at h
  · rename_i e; subst e; cases h; exact ti130_ok
  rw [tyOf] at h
  split at h
  · rename_i e; subst e; cases h; exact ti131_ok
  rw [tyOf] at h
  split at h
  · rename_i e; subst e; cases h; exact ti132_ok
  rw [tyOf] at h
  split at h
  · rename_i e; subst e; cases h; exact ti133_ok
  rw [tyOf] at h
  split at h
  · rename_i e; subst e; cases h; exact ti134_ok
  rw [tyOf] at h
  split at h
  · rename_i e; subst e; cases h; exact ti135_ok
  rw [tyOf] at h
  split at h
  · rename_i e; subst e; cases h; exact ti136_ok
  rw [tyOf] at h
  split at h
  · rename_i e; subst e; cases h; exact ti137_ok
  rw [tyOf] at h
  split at h
  · rename_i e; subst e; cases h; exact ti138_ok
  rw [tyOf] at h
  split at h
  · rename_i e; subst e; cases h; exact ti139_ok
  rw [tyOf] at h
  split at h
  · rename_i e; subst e; cases h; exact ti141_ok
  rw [tyOf] at h
  split at h
  · rename_i e; subst e; cases h; exact ti142_ok
  rw [tyOf] at h
  split at h
  · rename_i e; subst e; cases h; exact ti143_ok
  rw [tyOf] at h
  split at h
  · rename_i e; subst e; cases h; exact ti144_ok
  rw [tyOf] at h
  split at h
  · rename_i e; subst e; cases h; exact ti145_ok
  rw [tyOf] at h
  split at h
  · rename_i e; subst e; cases h; exact ti146_ok
  rw [tyOf] at h
  split at h
  · rename_i e; subst e; cases h; exact ti147_ok
  rw [tyOf] at h
  split at h
  · rename_i e; subst e; cases h; exact ti148_ok
  rw [tyOf] at h
  split at h
  · rename_i e; subst e; cases h; exact ti149_ok
  rw [tyOf] at h
  split at h
  · rename_i e; subst e; cases h; exact ti150_ok
  rw [tyOf] at h
  split at h
  · rename_i e; subst e; cases h; exact ti152_ok
  rw [tyOf] at h
  split at h
  · rename_i e; subst e; cases h; exact ti153_ok
  rw [tyOf] at h
  split at h
  · rename_i e; subst e; cases h; exact ti155_ok
  rw [tyOf] at h
  split at h
  · rename_i e; subst e; cases h; exact ti156_ok
  rw [tyOf] at h
  split at h
  · rename_i e; subst e; cases h; exact ti157_ok
  rw [tyOf] at h
  split at h
  · rename_i e; subst e; cases h; exact ti158_ok
  rw [tyOf] at h
  split at h
  · rename_i e; subst e; cases h; exact ti159_ok
  rw [tyOf] at h
  split at h
  · rename_i e; subst e; cases h; exact ti160_ok
  rw [tyOf] at h
  split at h
  · rename_i e; subst e; cases h; exact ti162_ok
  rw [tyOf] at h
  split at h
  · rename_i e; subst e; cases h; exact ti163_ok
  rw [tyOf] at h
  split at h
  · rename_i e; subst e; cases h; exact ti164_ok
  rw [tyOf] at h
  split at h
  · rename_i e; subst e; cases h; exact ti165_ok
  rw [tyOf] at h
  split at h
  · rename_i e; subst e; cases h; exact ti166_ok
  rw [tyOf] at h
  split at h
  · rename_i e; subst e; cases h; exact ti167_ok
  rw [tyOf] at h
  split at h
  · rename_i e; subst e; cases h; exact ti168_ok
  rw [tyOf] at h
  split at h
  · rename_i e; subst e; cases h; exact ti169_ok
  rw [tyOf] at h
  split at h
  · rename_i e; subst e; cases h; exact ti170_ok
  rw [tyOf] at h
  split at h
  · rename_i e; subst e; cases h; exact ti171_ok
  rw [tyOf] at h
  split at h
  · rename_i e; subst e; cases h; exact ti172_ok
  rw [tyOf] at h
  split at h
  · rename_i e; subst e; cases h; exact ti173_ok
  rw [tyOf] at h
  split at h
  · rename_i e; subst e; cases h; exact ti174_ok
  rw [tyOf] at h
  split at h
  · rename_i e; subst e; cases h; exact ti175_ok
  rw [tyOf] at h
  split at h
  · rename_i e; subst e; cases h; exact ti176_ok
  rw [tyOf] at h
  split at h
  · rename_i e; subst e; cases h; exact ti177_ok
  rw [tyOf] at h
  split at h
  · rename_i e; subst e; cases h; exact ti178_ok
  rw [tyOf] at h
  split at h
  · rename_i e; subst e; cases h; exact ti179_ok
  rw [tyOf] at h
  split at h
  · rename_i e; subst e; cases h; exact ti180_ok
  rw [tyOf] at h
  split at h
  · rename_i e; subst e; cases h; exact ti181_ok
  rw [tyOf] at h
  split at h
  · rename_i e; subst e; cases h; exact ti182_ok
  rw [tyOf] at h
  split at h
  · rename_i e; subst e; cases h; exact ti183_ok
  cases h
end Go.Proofs.YtoclmkbjgmgekaaDoor
namespace Go.Proofs.YtoclmkbjgmgekaaDoor
set_option linter.unusedVariables false
set_option linter.unusedSimpArgs false
set_option linter.unusedSectionVars false
open Go.RowKit
theorem Sx.eta (u : Sx) : (⟨u.isList, u.atom, u.list⟩ : Sx) = u := by cases u; rfl
mutual
def nodesS : Sx → Nat
  | ⟨_, _, l⟩ => 1 + nodesL l
def nodesL : List Sx → Nat
  | [] => 0
  | x :: l => nodesS x + nodesL l
end
mutual
def cnt : Sx → Int → Int → Int
  | ⟨b, _, l⟩, lim, d => if d < 1 ∨ lim < 1 then lim + 1 else if b = false then 1 else cnts l lim (d - 1) 1
def cnts : List Sx → Int → Int → Int → Int
  | [], _, _, n => n
  | x :: l, lim, d, n => if n ≤ lim then cnts l lim d (n + cnt x (lim - n) d) else n
end
mutual
def ckR : Sx → Int
  | ⟨b, a, l⟩ => if b = false then (if 0 < l.length then 1 else if 65536 < a.size then 4 else 0) else if a ≠ ⟨#[]⟩ then 1 else ckRs l
def ckRs : List Sx → Int
  | [] => 0
  | x :: l => if ckR x = 0 then ckRs l else ckR x
end
mutual
def shS : Sx → Int
  | ⟨b, a, l⟩ => if (b = true ∧ a ≠ ⟨#[]⟩) ∨ (b = false ∧ 0 < l.length) then 1 else if 65536 < a.size then 4 else shSs l
def shSs : List Sx → Int
  | [] => 0
  | x :: l => if shS x = 0 then shSs l else shS x
end
mutual
def madd : Sx → Int → Bool → Int → Int × Bool
  | ⟨b, _, l⟩, n, o, d => if b = false then (n + 1, o || decide (20000 < n + 1 ∨ 12 < d)) else madds l (n + 1) (o || decide (20000 < n + 1 ∨ 12 < d)) (d + 1)
def madds : List Sx → Int → Bool → Int → Int × Bool
  | [], n, o, _ => (n, o)
  | x :: l, n, o, d => if o = true then (n, o) else madds l (madd x n o d).1 (madd x n o d).2 d
end
def bl (s : ByteArray) : List UInt8 := s.data.toList
def decB (n : Int) : ByteArray := ⟨(Lib.itoa n).toArray⟩
mutual
def encB : Sx → ByteArray
  | ⟨b, a, l⟩ => if b = false then decB a.size ++ ⟨#[58]⟩ ++ a else encBs l ⟨#[40]⟩ ++ ⟨#[41]⟩
def encBs : List Sx → ByteArray → ByteArray
  | [], s => s
  | x :: l, s => encBs l (s ++ encB x)
end
def numR : Bool → Nat → List UInt8 → Res (Nat × List UInt8) Int
  | _, _, [] => .err 11
  | first, n, c :: l =>
    if c.toNat = 58 ∧ first = false then .ok (n, l)
    else if c.toNat < 48 ∨ 57 < c.toNat ∨ (first = false ∧ n = 0) then .err 12
    else if 65536 < 10 * n + (c.toNat - 48) then .err 12
    else numR false (10 * n + (c.toNat - 48)) l
def atomG (first : Bool) (n : Nat) (l : List UInt8) : Res (List UInt8 × List UInt8) Int :=
  match numR first n l with
  | .err e => .err e
  | .ok (n, r) => if r.length < n then .err 11 else .ok (r.take n, r.drop n)
def atomR (l : List UInt8) : Res (List UInt8 × List UInt8) Int := atomG true 0 l
def rdL (f : Nat → List UInt8 → Res (Sx × Nat × List UInt8) Int) : Nat → Nat → List UInt8 → List Sx → Res (List Sx × Nat × List UInt8) Int
  | 0, _, _, _ => .err 0
  | _ + 1, _, [], _ => .err 11
  | m + 1, k, c :: l, acc => if c.toNat = 41 then .ok (acc, k, l) else match f k (c :: l) with
    | .err e => .err e
    | .ok (x, k', l') => rdL f m k' l' (acc ++ [x])
def rdS : Nat → Nat → List UInt8 → Res (Sx × Nat × List UInt8) Int
  | _, _, [] => .err 11
  | 0, _, _ :: _ => .err 12
  | d + 1, k, c :: l => if 20000 < k + 1 then .err 12 else if c.toNat ≠ 40 then match atomR (c :: l) with
      | .err e => .err e
      | .ok (a, r) => .ok (⟨false, ⟨a.toArray⟩, []⟩, k + 1, r)
    else match rdL (rdS d) (l.length + 1) (k + 1) l [] with
      | .err e => .err e
      | .ok (xs, k', r) => .ok (⟨true, ⟨#[]⟩, xs⟩, k', r)
def lim : Nat := 1073741824
end Go.Proofs.YtoclmkbjgmgekaaDoor
namespace Go.Proofs.YtoclmkbjgmgekaaDoor
set_option linter.unusedVariables false
set_option linter.unusedSimpArgs false
set_option linter.unusedSectionVars false
open Go.RowKit
def addF (g : prodL [.bool, .str, .sl .sexp, .int .i64, .int .i64, .bool]) (K X : Kn) : Prop :=
  K (.tu []) [some (.cells [.int .i64 (madd ⟨g.1, g.2.1, g.2.2.1⟩ g.2.2.2.2.1 g.2.2.2.2.2.1 g.2.2.2.1).1, .bool (madd ⟨g.1, g.2.1, g.2.2.1⟩ g.2.2.2.2.1 g.2.2.2.2.2.1 g.2.2.2.1).2])]
end Go.Proofs.YtoclmkbjgmgekaaDoor
namespace Go.Proofs.YtoclmkbjgmgekaaDoor
set_option linter.unusedVariables false
set_option linter.unusedSimpArgs false
set_option linter.unusedSectionVars false
open Go.RowKit
attribute [local irreducible] dfun dround
def H94 : List (Nat × Hint) := [(6, ⟨[], [(31, .leaf), (32, .leaf), (33, .leaf)], [], [.sl .sexp, .int .i64, .int .i64]⟩)]
def J94 : List (Nat × Hint) := [(2, ⟨[((1, []), none)], [(1, .pt 0 0), (6, .leaf)], [.cells [.leaf, .leaf, .leaf]], [.bool, .bool, .str, .sl .sexp]⟩)]
abbrev S94 : List Sh := [.ag [.leaf, .leaf, .leaf]]
abbrev L94 : List Lf := [.bool, .str, .sl .sexp]
def spz94 (Z : prodL L94 → Prop) : Sp := ⟨S94, L94, Z, fun g => .int .i64 (shS ⟨g.1, g.2.1, g.2.2.1⟩), fun _ => none⟩
def F94_B4 (K : Kn) (Z : prodL L94 → Prop) (W4 : prodL [.sl .sexp, .int .i64, .int .i64] → Prop) (t_3 : List Sx) (t2_3 : Int) (t3_3 : Int) : Prop :=
  bif decide (t3_3 < t2_3) then (
    At t_3 t3_3 fun u5 =>
  Z (u5.isList, u5.atom, u5.list, ()) ∧
  bif !decide (shS ⟨u5.isList, u5.atom, u5.list⟩ = 0) then (
    K (.int .i64 (shS ⟨u5.isList, u5.atom, u5.list⟩)) [])
  else (
    W4 (t_3, t2_3, IntKind.i64.wrap (t3_3 + 1), ())))
  else (
    K (.int .i64 0) [])
def F94_L4 (K : Kn) (Z : prodL L94 → Prop) (g : prodL [.sl .sexp, .int .i64, .int .i64]) : Prop :=
  LoopW (γ := prodL [.sl .sexp, .int .i64, .int .i64]) (fun V y => F94_B4 K Z V y.1 y.2.1 y.2.2.1) g
def F94_J2 (K : Kn) (Z : prodL L94 → Prop) (t_1 : Bool) (x1_1 : Bool) (x2_1 : ByteArray) (x3_1 : List Sx) : Prop :=
  bif t_1 then (
    K (.int .i64 1) [])
  else (
    bif decide (65536 < (x2_1.size : Int)) then (
      K (.int .i64 4) [])
    else (
      F94_L4 K Z (x3_1, (x3_1.length : Int), 0, ())))
def F94 (Z : prodL L94 → Prop) (g : prodL L94) (K : Kn) : Prop :=
  bif g.1 then (
    bif !decide (g.2.1 = (⟨#[]⟩ : ByteArray)) then (
      F94_J2 K Z true g.1 g.2.1 g.2.2.1)
    else (
      bif !g.1 then (
        F94_J2 K Z (decide (0 < (g.2.2.1.length : Int))) g.1 g.2.1 g.2.2.1)
      else (
        F94_J2 K Z false g.1 g.2.1 g.2.2.1)))
  else (
    bif !g.1 then (
      F94_J2 K Z (decide (0 < (g.2.2.1.length : Int))) g.1 g.2.1 g.2.2.1)
    else (
      F94_J2 K Z false g.1 g.2.1 g.2.2.1))
theorem F94_eq (Z : prodL L94 → Prop) (g : prodL L94) (K X : Kn) : F94 Z g K = dfun D (gamX [] [(94, true, spz94 Z)]) (isRaw []) H94 J94 43 [.tmp 2] (codeOf Tryd.f94) (argsT S94 L94 g) [] (settle0 K) X := by kernel_rfl
theorem F94_ok (Z : prodL L94 → Prop) (hZ : (spz94 Z).Ok Tryd.prog 94 true) (g : prodL L94) (K X : Kn) (h : F94 Z g K) : FCalls Tryd.prog 94 (argsT S94 L94 g) [] K X :=
  FCalls.settle0 (dfun_sound (Γ := gamX [] [(94, true, spz94 Z)]) (mu := isRaw []) (H := H94) (J := J94) D_ok (gamX_ok (rs := []) (l := [(94, true, spz94 Z)]) (fun p hp => by cases hp) (by intro p hp; simp only [List.mem_cons, List.not_mem_nil, or_false] at hp; subst hp; exact hZ)) gamX_det rfl Tryd.func94 (c := codeOf Tryd.f94) rfl Tryd.ntmps94 (rs := [.tmp 2]) Tryd.results94 (by unfold enters; rw [Tryd.func94]; kernel_rfl) (Nat.le_of_ble_eq_true (by kernel_rfl)) (X := X) (c0 := 0) (Eq.mp (F94_eq Z g K X) h))
def H93 : List (Nat × Hint) := [(6, ⟨[], [(0, .pt 0 0), (2, .leaf), (31, .leaf), (32, .leaf), (33, .leaf)], [.cells [.leaf, .leaf]], [.int .i64, .sl .sexp, .int .i64, .int .i64, .int .i64, .bool]⟩)]
def J93 : List (Nat × Hint) := [(3, ⟨[((4, []), none)], [(0, .pt 0 0), (2, .leaf), (4, .pt 1 0), (23, .leaf)], [.cells [.leaf, .leaf], .cells [.leaf, .leaf, .leaf]], [.int .i64, .bool, .int .i64, .bool, .bool, .str, .sl .sexp]⟩), (4, ⟨[((4, []), none)], [(0, .pt 0 0), (2, .leaf), (4, .pt 1 0)], [.cells [.leaf, .leaf], .cells [.leaf, .leaf, .leaf]], [.int .i64, .int .i64, .bool, .bool, .str, .sl .sexp]⟩)]
abbrev S93 : List Sh := [.pt 0 0, .ag [.leaf, .leaf, .leaf], .leaf]
abbrev L93 : List Lf := [.bool, .str, .sl .sexp, .int .i64, .int .i64, .bool]
abbrev O93 : List ObSh := [.cells [.leaf, .leaf]]
def rwz93 (Z : prodL L93 → Prop) : Raw := ⟨S93, O93, L93, 0, fun g K X => Z g ∧ addF g K X⟩
def F93_B5 (K : Kn) (Z : prodL L93 → Prop) (W5 : prodL [.int .i64, .sl .sexp, .int .i64, .int .i64, .int .i64, .bool] → Prop) (level_4 : Int) (t_4 : List Sx) (t2_4 : Int) (t3_4 : Int) (o01_4 : Int) (o02_4 : Bool) : Prop :=
  bif decide (t3_4 < t2_4) then (
    At t_4 t3_4 fun u6 =>
  bif o02_4 then (
    K (.tu []) [some (.cells [.int .i64 o01_4, .bool o02_4])])
  else (
    Z (u6.isList, u6.atom, u6.list, IntKind.i64.wrap (level_4 + 1), o01_4, o02_4, ()) ∧
  W5 (level_4, t_4, t2_4, IntKind.i64.wrap (t3_4 + 1), (madd ⟨u6.isList, u6.atom, u6.list⟩ o01_4 o02_4 (IntKind.i64.wrap (level_4 + 1))).1, (madd ⟨u6.isList, u6.atom, u6.list⟩ o01_4 o02_4 (IntKind.i64.wrap (level_4 + 1))).2, ())))
  else (
    K (.tu []) [some (.cells [.int .i64 o01_4, .bool o02_4])])
def F93_L5 (K : Kn) (Z : prodL L93 → Prop) (g : prodL [.int .i64, .sl .sexp, .int .i64, .int .i64, .int .i64, .bool]) : Prop :=
  LoopW (γ := prodL [.int .i64, .sl .sexp, .int .i64, .int .i64, .int .i64, .bool]) (fun V y => F93_B5 K Z V y.1 y.2.1 y.2.2.1 y.2.2.2.1 y.2.2.2.2.1 y.2.2.2.2.2.1) g
def F93_J7 (K : Kn) (Z : prodL L93 → Prop) (level_3 : Int) (o01_3 : Int) (o02_3 : Bool) (x1_3 : Bool) (x2_3 : ByteArray) (x3_3 : List Sx) : Prop :=
  bif !x1_3 then (
    K (.tu []) [some (.cells [.int .i64 o01_3, .bool o02_3])])
  else (
    F93_L5 K Z (level_3, x3_3, (x3_3.length : Int), 0, o01_3, o02_3, ()))
def F93_J2 (K : Kn) (Z : prodL L93 → Prop) (level_1 : Int) (t_1 : Bool) (o01_1 : Int) (o02_1 : Bool) (x1_1 : Bool) (x2_1 : ByteArray) (x3_1 : List Sx) : Prop :=
  bif t_1 then (
    F93_J7 K Z level_1 o01_1 true x1_1 x2_1 x3_1)
  else (
    F93_J7 K Z level_1 o01_1 o02_1 x1_1 x2_1 x3_1)
def F93 (Z : prodL L93 → Prop) (g : prodL L93) (K : Kn) : Prop :=
  bif decide (20000 < IntKind.i64.wrap (g.2.2.2.2.1 + 1)) then (
    F93_J2 K Z g.2.2.2.1 true (IntKind.i64.wrap (g.2.2.2.2.1 + 1)) g.2.2.2.2.2.1 g.1 g.2.1 g.2.2.1)
  else (
    F93_J2 K Z g.2.2.2.1 (decide (12 < g.2.2.2.1)) (IntKind.i64.wrap (g.2.2.2.2.1 + 1)) g.2.2.2.2.2.1 g.1 g.2.1 g.2.2.1)
theorem F93_eq (Z : prodL L93 → Prop) (g : prodL L93) (K X : Kn) : F93 Z g K = dfun D (gamX [(93, rwz93 Z)] []) (isRaw [(93, rwz93 Z)]) H93 J93 47 [] (codeOf Tryd.f93) (argsT S93 L93 g) (storeT S93 O93 L93 g) (settleD (storeT S93 O93 L93 g).length 0 K) X 0 := by kernel_rfl
theorem F93_ok (Z : prodL L93 → Prop) (hZ : (rwz93 Z).Ok Tryd.prog 93) (g : prodL L93) (K X : Kn) (h : F93 Z g K) : FCalls Tryd.prog 93 (argsT S93 L93 g) (storeT S93 O93 L93 g) K X 0 :=
  FCalls.settleD (dfun_sound (Γ := gamX [(93, rwz93 Z)] []) (mu := isRaw [(93, rwz93 Z)]) (H := H93) (J := J93) D_ok (gamX_ok (rs := [(93, rwz93 Z)]) (l := []) (by intro p hp; simp only [List.mem_cons, List.not_mem_nil, or_false] at hp; subst hp; exact hZ) (fun p hp => by cases hp)) gamX_det rfl Tryd.func93 (c := codeOf Tryd.f93) rfl Tryd.ntmps93 (rs := []) Tryd.results93 (by unfold enters; rw [Tryd.func93]; kernel_rfl) (Nat.le_of_ble_eq_true (by kernel_rfl)) (X := X) (c0 := 0) (Eq.mp (F93_eq Z g K X) h))
end Go.Proofs.YtoclmkbjgmgekaaDoor
namespace Go.Proofs.YtoclmkbjgmgekaaDoor
set_option linter.unusedVariables false
set_option linter.unusedSimpArgs false
set_option linter.unusedSectionVars false
open Go.RowKit
theorem wrap64 {n : Int} (h1 : -9223372036854775808 ≤ n) (h2 : n < 9223372036854775808) : IntKind.i64.wrap n = n := by
  simp [IntKind.wrap, IntKind.bits, IntKind.signed]; omega
theorem At_of {α : Type} {l : List α} {n : Nat} {K : α → Prop} (h : n < l.length) (hK : K l[n]) : At l (n : Int) K :=
  ⟨by omega, l[n], by simp [h], hK⟩
theorem wrapS {n N : Nat} (h : n < N) (hN : N ≤ 4294967296) : IntKind.i64.wrap ((n : Int) + 1) = ((n + 1 : Nat) : Int) := by
  rw [wrap64 (by omega) (by omega)]; rfl
theorem LoopW.fold {α σ γ : Type} {body : (γ → Prop) → γ → Prop} {g : γ} (l : List α) (S : Nat → σ → γ) (P : List α → Nat → σ → Prop) {a0 : σ} (hg : g = S 0 a0) (h0 : P l 0 a0)
    (hn : ∀ a, P [] l.length a → ∀ W, body W (S l.length a)) (hc : ∀ n (h : n < l.length) r a, r = l.drop (n + 1) → P (l[n] :: r) n a → ∀ W : γ → Prop, (∀ a', P r (n + 1) a' → W (S (n + 1) a')) → body W (S n a)) : LoopW body g := by
  rw [hg]
  have key : ∀ k n a, n + k = l.length → P (l.drop n) n a → loopN body (k + 1) (S n a) := by
    intro k
    induction k with
    | zero =>
      intro n a hk hp
      have : n = l.length := by omega
      subst this
      rw [List.drop_length] at hp
      exact hn a hp _
    | succ k ih =>
      intro n a hk hp
      have hlt : n < l.length := by omega
      rw [List.drop_eq_getElem_cons hlt] at hp
      exact hc n hlt _ a rfl hp _ fun a' hp' => ih (n + 1) a' (by omega) hp'
  exact ⟨l.length + 1, key l.length 0 a0 (by omega) h0⟩
theorem mem_bk : ∀ {l : List Sx} {x : Sx}, x ∈ l → bkS x ≤ bkSs l
  | y :: l, x, h => by
    simp only [bkSs]
    rcases List.mem_cons.1 h with rfl | h
    · omega
    · have := mem_bk h; omega
theorem mem_nodes : ∀ {l : List Sx} {x : Sx}, x ∈ l → nodesS x ≤ nodesL l
  | y :: l, x, h => by
    simp only [nodesL]
    rcases List.mem_cons.1 h with rfl | h
    · omega
    · have := mem_nodes h; omega
theorem bk_pos (x : Sx) : 3 ≤ bkS x := by cases x; simp only [bkS]; omega
theorem len_bk : ∀ (l : List Sx), 3 * l.length ≤ bkSs l
  | [] => by simp [bkSs]
  | x :: l => by
    have := len_bk l
    have := bk_pos x
    simp only [bkSs, List.length_cons]; omega
theorem lim_eq : lim = 1073741824 := rfl
theorem small {b : Bool} {a : ByteArray} {l : List Sx} (h : bkS ⟨b, a, l⟩ ≤ lim) : l.length ≤ 4294967296 ∧ a.size ≤ lim ∧ bkSs l ≤ lim ∧ ∀ x ∈ l, bkS ⟨x.isList, x.atom, x.list⟩ ≤ lim ∧ nodesS ⟨x.isList, x.atom, x.list⟩ < nodesS ⟨b, a, l⟩ := by
  simp only [bkS] at h
  have := len_bk l
  rw [lim_eq] at *
  refine ⟨by omega, by omega, by omega, fun x hx => ?_⟩
  rw [Sx.eta]
  have := mem_bk hx
  have := mem_nodes hx
  simp only [nodesS]
  exact ⟨by omega, by omega⟩
theorem bif_not {b : Bool} {p q : Prop} : (bif !b then p else q) = bif b then q else p := by cases b <;> rfl
theorem bif_dec {c : Prop} [Decidable c] {p q : Prop} : (bif decide c then p else q) = if c then p else q := by by_cases h : c <;> simp [h]
theorem F94_is {Z : prodL L94 → Prop} {b : Bool} {a : ByteArray} {l : List Sx} {K : Kn} (hs : l.length ≤ 4294967296) (hZ : ∀ x ∈ l, Z (x.isList, x.atom, x.list, ())) (h : K (.int .i64 (shS ⟨b, a, l⟩)) []) : F94 Z (b, a, l, ()) K := by
  have hloop : (65536 < a.size → K (.int .i64 4) []) → (¬ 65536 < a.size → K (.int .i64 (shSs l)) []) → bif decide (65536 < (a.size : Int)) then K (.int .i64 4) [] else F94_L4 K Z (l, (l.length : Int), 0, ()) := fun h1 h2 => by
    rw [bif_dec]
    split
    · exact h1 (by omega)
    · unfold F94_L4
      refine LoopW.fold l (fun n (_ : Unit) => (l, (l.length : Int), (n : Int), ())) (fun r _ _ => K (.int .i64 (shSs r)) []) (a0 := ()) rfl (h2 (by omega)) (fun _ hp W => ?_) (fun n hn r _ hr hp W hW => ?_)
      · unfold F94_B4
        rw [bif_dec, if_neg (by dsimp only; omega)]
        exact hp
      · unfold F94_B4
        rw [bif_dec, if_pos (by dsimp only; omega)]
        refine At_of hn ⟨hZ _ (List.getElem_mem hn), ?_⟩
        rw [Sx.eta, bif_not, bif_dec]
        simp only [shSs] at hp
        by_cases h2 : shS l[n] = 0
        · rw [if_pos h2] at hp ⊢; rw [wrapS hn hs]; exact hW () hp
        · rw [if_neg h2] at hp ⊢; exact hp
  unfold F94
  simp only [shS] at h
  dsimp only [Lf.ty, prodL] at h ⊢
  cases b
  · simp only [Bool.false_eq_true, false_and, true_and, false_or, cond_false, Bool.not_false, cond_true, F94_J2, bif_dec] at h ⊢
    by_cases h1 : 0 < l.length
    · rw [if_pos h1] at h; rw [if_pos (by omega)]; exact h
    · rw [if_neg h1] at h; rw [if_neg (by omega)]
      have := hloop (fun h2 => by rw [if_pos h2] at h; exact h) (fun h2 => by rw [if_neg h2] at h; exact h)
      rwa [bif_dec] at this
  · simp only [true_and, Bool.true_eq_false, false_and, or_false, cond_false, Bool.not_true, cond_true, F94_J2, bif_not, bif_dec] at h ⊢
    by_cases h1 : a = ⟨#[]⟩
    · rw [if_neg (by simpa using h1)] at h; rw [if_pos h1]
      have := hloop (fun h2 => by rw [if_pos h2] at h; exact h) (fun h2 => by rw [if_neg h2] at h; exact h)
      rwa [bif_dec] at this
    · rw [if_pos (by simpa using h1)] at h; rw [if_neg h1]; exact h
def sp94 : Sp := spz94 fun g => bkS ⟨g.1, g.2.1, g.2.2.1⟩ ≤ lim
theorem sp94_all : ∀ n, (spz94 fun g => bkS ⟨g.1, g.2.1, g.2.2.1⟩ ≤ lim ∧ nodesS ⟨g.1, g.2.1, g.2.2.1⟩ < n).Ok Tryd.prog 94 true
  | 0 => ⟨fun _ _ _ h _ => absurd h.2 (Nat.not_lt_zero _), fun _ _ _ => rfl, fun _ => rfl, fun _ _ => ⟨rfl, rfl⟩⟩
  | n + 1 => ⟨fun g _ X hp h => F94_ok _ (sp94_all n) _ _ X (F94_is (small hp.1).1 (fun x hx => ⟨((small hp.1).2.2.2 x hx).1, by have := ((small hp.1).2.2.2 x hx).2; have := hp.2; dsimp only at *; omega⟩) h), fun _ _ _ => rfl, fun _ => rfl, fun _ _ => ⟨rfl, rfl⟩⟩
theorem sp94_ok : sp94.Ok Tryd.prog 94 true :=
  ⟨fun g K X hp h => (sp94_all (nodesS ⟨g.1, g.2.1, g.2.2.1⟩ + 1)).calls g K X ⟨hp, Nat.lt_succ_self _⟩ h, fun _ _ _ => rfl, fun _ => rfl, fun _ _ => ⟨rfl, rfl⟩⟩
end Go.Proofs.YtoclmkbjgmgekaaDoor
namespace Go.Proofs.YtoclmkbjgmgekaaDoor
set_option linter.unusedVariables false
set_option linter.unusedSimpArgs false
set_option linter.unusedSectionVars false
open Go.RowKit
mutual
theorem madd_le : ∀ (x : Sx) (n : Int) (o : Bool) (d : Int), n ≤ (madd x n o d).1 ∧ (madd x n o d).1 ≤ n + nodesS x
  | ⟨b, a, l⟩, n, o, d => by
    simp only [madd, nodesS]
    split
    · simp only; omega
    · have := madds_le l (n + 1) (o || decide (20000 < n + 1 ∨ 12 < d)) (d + 1)
      omega
theorem madds_le : ∀ (l : List Sx) (n : Int) (o : Bool) (d : Int), n ≤ (madds l n o d).1 ∧ (madds l n o d).1 ≤ n + nodesL l
  | [], n, o, d => by simp [madds, nodesL]
  | x :: l, n, o, d => by
    simp only [madds, nodesL]
    split
    · simp only; omega
    · have h1 := madd_le x n o d
      have h2 := madds_le l (madd x n o d).1 (madd x n o d).2 d
      omega
end
mutual
theorem nodes_bk : ∀ (x : Sx), nodesS x ≤ bkS x
  | ⟨b, a, l⟩ => by have := nodesL_bk l; simp only [nodesS, bkS]; omega
theorem nodesL_bk : ∀ (l : List Sx), nodesL l ≤ bkSs l
  | [] => by simp [nodesL, bkSs]
  | x :: l => by have := nodes_bk x; have := nodesL_bk l; simp only [nodesL, bkSs]; omega
end
def addP (x : Sx) (d n : Int) : Prop := bkS x ≤ lim ∧ (0 ≤ n ∧ n + nodesS x ≤ 1099511627776) ∧ 0 ≤ d ∧ d + nodesS x ≤ 1099511627776
def addPre (g : prodL L93) : Prop := addP ⟨g.1, g.2.1, g.2.2.1⟩ g.2.2.2.1 g.2.2.2.2.1
theorem F93_is {Z : prodL L93 → Prop} {b : Bool} {a : ByteArray} {l : List Sx} {d n : Int} {o : Bool} {K X : Kn} (hs : l.length ≤ 4294967296) (hn : 0 ≤ n ∧ n + 1 + nodesL l ≤ 1099511627776) (hd : 0 ≤ d ∧ d + 1 + nodesL l ≤ 1099511627776)
    (hZ : ∀ x ∈ l, ∀ k o', n ≤ k → k + nodesS x ≤ 1099511627776 → Z (x.isList, x.atom, x.list, d + 1, k, o', ())) (h : addF (b, a, l, d, n, o, ()) K X) : F93 Z (b, a, l, d, n, o, ()) K := by
  unfold addF at h
  simp only [madd] at h
  have hrest : ∀ o2, o2 = (o || decide (20000 < n + 1 ∨ 12 < d)) → F93_J7 K Z d (n + 1) o2 b a l := fun o2 ho => by
    rw [← ho] at h
    unfold F93_J7
    rw [bif_not]
    cases b
    · simp only [if_true] at h
      exact h
    simp only [Bool.true_eq_false, if_false, cond_true] at h ⊢
    unfold F93_L5
    refine LoopW.fold l (fun i (c : Int × Bool) => (d, l, (l.length : Int), (i : Int), c.1, c.2, ())) (fun r _ c => K (.tu []) [some (.cells [.int .i64 (madds r c.1 c.2 (d + 1)).1, .bool (madds r c.1 c.2 (d + 1)).2])] ∧ n ≤ c.1 ∧ c.1 + nodesL r ≤ 1099511627776) (a0 := (n + 1, o2)) rfl ⟨h, by dsimp only; omega, by dsimp only; omega⟩ (fun c hp W => ?_) (fun i hi r c hr hp W hW => ?_)
    · unfold F93_B5
      rw [bif_dec, if_neg (by dsimp only; omega)]
      exact hp.1
    · unfold F93_B5
      obtain ⟨hp, hc1, hc2⟩ := hp
      rw [bif_dec, if_pos (by dsimp only; omega)]
      refine At_of hi ?_
      simp only [madds] at hp
      simp only [nodesL] at hc2
      dsimp only
      cases ho2 : c.2
      · rw [ho2] at hp
        simp only [Bool.false_eq_true, if_false, cond_false] at hp ⊢
        rw [wrap64 (n := d + 1) (by omega) (by omega), Sx.eta, wrapS hi hs]
        have := madd_le l[i] c.1 false (d + 1)
        exact ⟨hZ _ (List.getElem_mem hi) _ _ hc1 (by omega), hW (_, _) ⟨hp, by dsimp only; omega, by dsimp only; omega⟩⟩
      · rw [ho2] at hp
        simp only [if_true, cond_true] at hp ⊢
        exact hp
  unfold F93
  dsimp only [Lf.ty, prodL]
  rw [wrap64 (n := n + 1) (by omega) (by omega)]
  simp only [bif_dec, F93_J2, cond_true]
  by_cases h1 : 20000 < n + 1
  · rw [if_pos h1]
    exact hrest true (by rw [decide_eq_true (.inl h1), Bool.or_true])
  · rw [if_neg h1]
    by_cases h2 : 12 < d
    · rw [if_pos h2]; exact hrest true (by rw [decide_eq_true (.inr h2), Bool.or_true])
    · rw [if_neg h2]; exact hrest o (by rw [decide_eq_false (by omega), Bool.or_false])
def rw93 : Raw := rwz93 addPre
theorem rw93_all : ∀ n, (rwz93 fun g => addPre g ∧ nodesS ⟨g.1, g.2.1, g.2.2.1⟩ < n).Ok Tryd.prog 93
  | 0 => fun _ _ _ h => absurd h.1.2 (Nat.not_lt_zero _)
  | n + 1 => by
    rintro ⟨b, a, l, d, m, o, ⟨⟩⟩ K X ⟨⟨⟨p1, ⟨p2, p3⟩, p4, p5⟩, p6⟩, h⟩
    obtain ⟨s1, _, _, s4⟩ := small p1
    simp only [nodesS] at p3 p5
    refine F93_ok _ (rw93_all n) _ K X (F93_is (X := X) s1 (by dsimp only [Lf.ty] at *; omega) (by dsimp only [Lf.ty] at *; omega) (fun x hx k o' k1 k2 => ?_) h)
    obtain ⟨q1, q2⟩ := s4 x hx
    have := mem_nodes hx
    have e : nodesS ⟨x.isList, x.atom, x.list⟩ = nodesS x := by rw [Sx.eta]
    dsimp only [Lf.ty] at *
    refine ⟨⟨q1, ⟨?_, ?_⟩, ?_, ?_⟩, ?_⟩ <;> (try dsimp only) <;> (try rw [e]) <;> omega
theorem rw93_ok : rw93.Ok Tryd.prog 93 := fun g K X h => rw93_all (nodesS ⟨g.1, g.2.1, g.2.2.1⟩ + 1) g K X ⟨⟨h.1, Nat.lt_succ_self _⟩, h.2⟩
end Go.Proofs.YtoclmkbjgmgekaaDoor
namespace Go.Proofs.YtoclmkbjgmgekaaDoor
set_option linter.unusedVariables false
set_option linter.unusedSimpArgs false
set_option linter.unusedSectionVars false
open Go.RowKit
def headR : List UInt8 → Res UInt8 Int
  | [] => .err 11
  | c :: _ => .ok c
def inP (a b n : Int) : Prop := a ≤ n ∧ n ≤ b
def atP (s : ByteArray) (p : Int) : Prop := 0 ≤ p ∧ p ≤ (s.size : Int) ∧ s.size ≤ 2 * lim
def nextPre (g : prodL [.str, .int .i64, .int .i64]) : Prop := atP g.1 g.2.1
def nextF (g : prodL [.str, .int .i64, .int .i64]) (K X : Kn) : Prop :=
  Res.go (headR ((bl g.1).drop g.2.1.toNat)) (fun a => K (.int .u8 (a.toNat : Int)) [some (.cells [.str g.1, .int .i64 g.2.1, .int .i64 g.2.2.1])]) (fun e => X (.ic 113 (.ag [.int .i64 e])) [some (.cells [.str g.1, .int .i64 g.2.1, .int .i64 g.2.2.1])])
def numF (g : prodL [.str, .int .i64, .int .i64]) (K X : Kn) : Prop :=
  Res.go (numR true 0 ((bl g.1).drop g.2.1.toNat)) (fun a => K (.int .i64 (a.1 : Int)) [some (.cells [.str g.1, .int .i64 ((g.1.size : Int) - (a.2.length : Int)), .int .i64 g.2.2.1])]) (fun e => ∀ p : Int, X (.ic 113 (.ag [.int .i64 e])) [some (.cells [.str g.1, .int .i64 p, .int .i64 g.2.2.1])])
def sexpPre (g : prodL [.int .i64, .str, .int .i64, .int .i64]) : Prop := inP 1 13 g.1 ∧ atP g.2.1 g.2.2.1 ∧ inP 0 20000 g.2.2.2.1
def sexpF (g : prodL [.int .i64, .str, .int .i64, .int .i64]) (K X : Kn) : Prop :=
  Res.go (rdS (13 - g.1).toNat g.2.2.2.1.toNat ((bl g.2.1).drop g.2.2.1.toNat)) (fun a => K (.ag [.bool a.1.isList, .str a.1.atom, .sl false .sexp a.1.list]) [some (.cells [.str g.2.1, .int .i64 ((g.2.1.size : Int) - (a.2.2.length : Int)), .int .i64 (a.2.1 : Int)])])
    (fun e => ∀ (p m : Int), X (.ic 113 (.ag [.int .i64 e])) [some (.cells [.str g.2.1, .int .i64 p, .int .i64 m])])
def digs (l : List UInt8) : Bool := l.all fun c => decide (48 ≤ c.toNat) && decide (c.toNat ≤ 57)
def head48 : List UInt8 → Bool
  | [] => false
  | c :: _ => decide (c.toNat = 48)
def canR (l : List UInt8) : Bool :=
  let d := if l.head? = some 45 then l.tail else l
  digs d && !decide (d = []) && (!head48 d || decide (l = [48]))
end Go.Proofs.YtoclmkbjgmgekaaDoor
namespace Go.Proofs.YtoclmkbjgmgekaaDoor
set_option linter.unusedVariables false
set_option linter.unusedSimpArgs false
set_option linter.unusedSectionVars false
open Go.RowKit
attribute [local irreducible] dfun dround
def H99 : List (Nat × Hint) := []
def J99 : List (Nat × Hint) := []
abbrev S99 : List Sh := [.pt 0 0]
abbrev L99 : List Lf := [.str, .int .i64, .int .i64]
abbrev O99 : List ObSh := [.cells [.leaf, .leaf, .leaf]]
def F99 (g : prodL L99) (K X : Kn) : Prop :=
  bif decide (g.2.1 = (g.1.size : Int)) then (
    X (.ic 113 (.ag [.int .i64 11])) [some (.cells [.str g.1, .int .i64 g.2.1, .int .i64 g.2.2.1])])
  else (
    StrAt g.1 g.2.1 fun b1 =>
  K (.int .u8 b1) [some (.cells [.str g.1, .int .i64 g.2.1, .int .i64 g.2.2.1])])
theorem F99_eq (g : prodL L99) (K X : Kn) : F99 g K X = dfun D (gamX [] []) (isRaw []) H99 J99 24 [.tmp 2] (codeOf Tryd.f99) (argsT S99 L99 g) (storeT S99 O99 L99 g) (settleD (storeT S99 O99 L99 g).length 0 K) (settleD (storeT S99 O99 L99 g).length 0 X) 0 := by kernel_rfl
theorem F99_ok (g : prodL L99) (K X : Kn) (h : F99 g K X) : FCalls Tryd.prog 99 (argsT S99 L99 g) (storeT S99 O99 L99 g) K X 0 :=
  FCalls.settleX (FCalls.settleD (dfun_sound (Γ := gamX [] []) (mu := isRaw []) (H := H99) (J := J99) D_ok (gamX_ok (rs := []) (l := []) (fun p hp => by cases hp) (fun p hp => by cases hp)) gamX_det rfl Tryd.func99 (c := codeOf Tryd.f99) rfl Tryd.ntmps99 (rs := [.tmp 2]) Tryd.results99 (by unfold enters; rw [Tryd.func99]; kernel_rfl) (Nat.le_of_ble_eq_true (by kernel_rfl)) (X := (settleD (storeT S99 O99 L99 g).length 0 X)) (c0 := 0) (Eq.mp (F99_eq g K X) h)))
end Go.Proofs.YtoclmkbjgmgekaaDoor
namespace Go.Proofs.YtoclmkbjgmgekaaDoor
set_option linter.unusedVariables false
set_option linter.unusedSimpArgs false
set_option linter.unusedSectionVars false
open Go.RowKit
attribute [local irreducible] dfun dround
def H125 : List (Nat × Hint) := []
def J125 : List (Nat × Hint) := []
abbrev S125 : List Sh := [.leaf, .leaf]
abbrev L125 : List Lf := [.str, .str]
abbrev O125 : List ObSh := []
def F125 (g : prodL L125) (K : Kn) : Prop :=
  bif decide ((g.2.1.size : Int) ≤ (g.1.size : Int)) then (
    (0 : Int) ≤ 0 ∧ 0 ≤ (g.2.1.size : Int) ∧ (g.2.1.size : Int) ≤ (g.1.size : Int) ∧
    K (.bool (decide (g.1.extract (0 : Int).toNat (g.2.1.size : Int).toNat = g.2.1))) [])
  else (
    K (.bool false) [])
theorem F125_eq (g : prodL L125) (K X : Kn) : F125 g K = dfun D (gamX [] []) (isRaw []) H125 J125 18 [.tmp 4] (codeOf Tryd.f125) (argsT S125 L125 g) (storeT S125 O125 L125 g) (settle0 K) X 0 := by kernel_rfl
theorem F125_ok (g : prodL L125) (K X : Kn) (h : F125 g K) : FCalls Tryd.prog 125 (argsT S125 L125 g) (storeT S125 O125 L125 g) K X 0 :=
  FCalls.settle0 (dfun_sound (Γ := gamX [] []) (mu := isRaw []) (H := H125) (J := J125) D_ok (gamX_ok (rs := []) (l := []) (fun p hp => by cases hp) (fun p hp => by cases hp)) gamX_det rfl Tryd.func125 (c := codeOf Tryd.f125) rfl Tryd.ntmps125 (rs := [.tmp 4]) Tryd.results125 (by unfold enters; rw [Tryd.func125]; kernel_rfl) (Nat.le_of_ble_eq_true (by kernel_rfl)) (X := X) (c0 := 0) (Eq.mp (F125_eq g K X) h))
def rw125 : Raw := ⟨S125, O125, L125, 0, fun g K _ => F125 g K⟩
theorem rw125_ok : rw125.Ok Tryd.prog 125 := fun g K X h => F125_ok g K X h
def H117 : List (Nat × Hint) := []
def J117 : List (Nat × Hint) := [(2, ⟨[], [(0, .leaf), (1, .leaf), (7, .leaf)], [], [.str, .str, .bool]⟩)]
abbrev S117 : List Sh := [.leaf, .leaf]
abbrev L117 : List Lf := [.str, .str]
abbrev O117 : List ObSh := []
def F117_J3 (K : Kn) (s_2 : ByteArray) (prefix_2 : ByteArray) (t_2 : Bool) : Prop :=
  bif t_2 then (
    (0 : Int) ≤ (prefix_2.size : Int) ∧ (prefix_2.size : Int) ≤ (s_2.size : Int) ∧ (s_2.size : Int) ≤ (s_2.size : Int) ∧
    K (.str (s_2.extract (prefix_2.size : Int).toNat (s_2.size : Int).toNat)) [])
  else (
    K (.str s_2) [])
def F117 (g : prodL L117) (K : Kn) : Prop :=
  let g1 : prodL [.str, .str] := (g.1, g.2.1, ());
  bif decide ((g1.2.1.size : Int) ≤ (g1.1.size : Int)) then (
    (0 : Int) ≤ 0 ∧ 0 ≤ (g1.2.1.size : Int) ∧ (g1.2.1.size : Int) ≤ (g1.1.size : Int) ∧
    F117_J3 K g.1 g.2.1 (decide (g1.1.extract (0 : Int).toNat (g1.2.1.size : Int).toNat = g1.2.1)))
  else (
    F117_J3 K g.1 g.2.1 false)
theorem F117_eq (g : prodL L117) (K X : Kn) : F117 g K = dfun D (gamX [(125, rw125)] []) (isRaw [(125, rw125)]) H117 J117 13 [.tmp 4] (codeOf Tryd.f117) (argsT S117 L117 g) (storeT S117 O117 L117 g) (settle0 K) X 0 := by kernel_rfl
theorem F117_ok (g : prodL L117) (K X : Kn) (h : F117 g K) : FCalls Tryd.prog 117 (argsT S117 L117 g) (storeT S117 O117 L117 g) K X 0 :=
  FCalls.settle0 (dfun_sound (Γ := gamX [(125, rw125)] []) (mu := isRaw [(125, rw125)]) (H := H117) (J := J117) D_ok (gamX_ok (rs := [(125, rw125)]) (l := []) (by intro p hp; simp only [List.mem_cons, List.not_mem_nil, or_false] at hp; subst hp; exact rw125_ok) (fun p hp => by cases hp)) gamX_det rfl Tryd.func117 (c := codeOf Tryd.f117) rfl Tryd.ntmps117 (rs := [.tmp 4]) Tryd.results117 (by unfold enters; rw [Tryd.func117]; kernel_rfl) (Nat.le_of_ble_eq_true (by kernel_rfl)) (X := X) (c0 := 0) (Eq.mp (F117_eq g K X) h))
def rw117 : Raw := ⟨S117, O117, L117, 0, fun g K _ => F117 g K⟩
theorem rw117_ok : rw117.Ok Tryd.prog 117 := fun g K X h => F117_ok g K X h
def H108 : List (Nat × Hint) := []
def J108 : List (Nat × Hint) := []
abbrev S108 : List Sh := [.leaf, .leaf]
abbrev L108 : List Lf := [.str, .str]
abbrev O108 : List ObSh := []
def F108_J4 (K : Kn) (s_3 : ByteArray) (prefix_3 : ByteArray) (t_3 : Bool) : Prop :=
  bif t_3 then (
    (0 : Int) ≤ (prefix_3.size : Int) ∧ (prefix_3.size : Int) ≤ (s_3.size : Int) ∧ (s_3.size : Int) ≤ (s_3.size : Int) ∧
    K (.str (s_3.extract (prefix_3.size : Int).toNat (s_3.size : Int).toNat)) [])
  else (
    K (.str s_3) [])
def F108 (g : prodL L108) (K : Kn) : Prop :=
  let g1 : prodL [.str, .str] := (g.1, g.2.1, ());
  let g2 : prodL [.str, .str] := (g1.1, g1.2.1, ());
  bif decide ((g2.2.1.size : Int) ≤ (g2.1.size : Int)) then (
    (0 : Int) ≤ 0 ∧ 0 ≤ (g2.2.1.size : Int) ∧ (g2.2.1.size : Int) ≤ (g2.1.size : Int) ∧
    F108_J4 K g1.1 g1.2.1 (decide (g2.1.extract (0 : Int).toNat (g2.2.1.size : Int).toNat = g2.2.1)))
  else (
    F108_J4 K g1.1 g1.2.1 false)
theorem F108_eq (g : prodL L108) (K X : Kn) : F108 g K = dfun D (gamX [(117, rw117)] []) (isRaw [(117, rw117)]) H108 J108 8 [.tmp 4] (codeOf Tryd.f108) (argsT S108 L108 g) (storeT S108 O108 L108 g) (settle0 K) X 0 := by kernel_rfl
theorem F108_ok (g : prodL L108) (K X : Kn) (h : F108 g K) : FCalls Tryd.prog 108 (argsT S108 L108 g) (storeT S108 O108 L108 g) K X 0 :=
  FCalls.settle0 (dfun_sound (Γ := gamX [(117, rw117)] []) (mu := isRaw [(117, rw117)]) (H := H108) (J := J108) D_ok (gamX_ok (rs := [(117, rw117)]) (l := []) (by intro p hp; simp only [List.mem_cons, List.not_mem_nil, or_false] at hp; subst hp; exact rw117_ok) (fun p hp => by cases hp)) gamX_det rfl Tryd.func108 (c := codeOf Tryd.f108) rfl Tryd.ntmps108 (rs := [.tmp 4]) Tryd.results108 (by unfold enters; rw [Tryd.func108]; kernel_rfl) (Nat.le_of_ble_eq_true (by kernel_rfl)) (X := X) (c0 := 0) (Eq.mp (F108_eq g K X) h))
def rw108 : Raw := ⟨S108, O108, L108, 0, fun g K _ => F108 g K⟩
theorem rw108_ok : rw108.Ok Tryd.prog 108 := fun g K X h => F108_ok g K X h
def H101 : List (Nat × Hint) := [(3, ⟨[], [(0, .leaf), (3, .leaf), (8, .leaf), (9, .leaf)], [], [.str, .str, .int .i64, .int .i64]⟩)]
def J101 : List (Nat × Hint) := [(2, ⟨[], [(0, .leaf), (3, .leaf)], [], [.str, .str]⟩), (6, ⟨[], [(0, .leaf), (3, .leaf), (8, .leaf), (9, .leaf), (21, .leaf)], [], [.str, .str, .int .i64, .int .i64, .bool]⟩)]
abbrev S101 : List Sh := [.leaf]
abbrev L101 : List Lf := [.str]
def F101_J12 (K : Kn) (W8 : prodL [.str, .str, .int .i64, .int .i64] → Prop) (s_11 : ByteArray) (digits_11 : ByteArray) (t_11 : Int) (t2_11 : Int) (t3_11 : Bool) : Prop :=
  bif t3_11 then (
    K (.bool false) [])
  else (
    W8 (s_11, digits_11, t_11, IntKind.i64.wrap (t2_11 + 1), ()))
def F101_B8 (K : Kn) (W8 : prodL [.str, .str, .int .i64, .int .i64] → Prop) (s_7 : ByteArray) (digits_7 : ByteArray) (t_7 : Int) (t2_7 : Int) : Prop :=
  bif decide (t2_7 < t_7) then (
    StrAt digits_7 t2_7 fun b9 =>
  bif decide (b9 < 48) then (
    F101_J12 K W8 s_7 digits_7 t_7 t2_7 true)
  else (
    StrAt digits_7 t2_7 fun b10 =>
    F101_J12 K W8 s_7 digits_7 t_7 t2_7 (decide (57 < b10))))
  else (
    bif !decide (digits_7 = (⟨#[]⟩ : ByteArray)) then (
    StrAt digits_7 0 fun b13 =>
    bif !decide (b13 = 48) then (
      K (.bool true) [])
    else (
      K (.bool (decide (s_7 = (⟨#[48]⟩ : ByteArray)))) []))
  else (
    K (.bool false) []))
def F101_L8 (K : Kn) (g : prodL [.str, .str, .int .i64, .int .i64]) : Prop :=
  LoopW (γ := prodL [.str, .str, .int .i64, .int .i64]) (fun V y => F101_B8 K V y.1 y.2.1 y.2.2.1 y.2.2.2.1) g
def F101_J14 (K : Kn) (s_6 : ByteArray) (digits_6 : ByteArray) : Prop :=
  F101_L8 K (s_6, digits_6, (digits_6.size : Int), 0, ())
def F101_J5 (K : Kn) (g : prodL L101) (s_4 : ByteArray) (prefix_4 : ByteArray) (t_4 : Bool) : Prop :=
  bif t_4 then (
    (0 : Int) ≤ (prefix_4.size : Int) ∧ (prefix_4.size : Int) ≤ (s_4.size : Int) ∧ (s_4.size : Int) ≤ (s_4.size : Int) ∧
    F101_J14 K g.1 (s_4.extract (prefix_4.size : Int).toNat (s_4.size : Int).toNat))
  else (
    F101_J14 K g.1 s_4)
def F101 (g : prodL L101) (K : Kn) : Prop :=
  let g1 : prodL [.str, .str] := (g.1, (⟨#[45]⟩ : ByteArray), ());
  let g2 : prodL [.str, .str] := (g1.1, g1.2.1, ());
  let g3 : prodL [.str, .str] := (g2.1, g2.2.1, ());
  bif decide ((g3.2.1.size : Int) ≤ (g3.1.size : Int)) then (
    (0 : Int) ≤ 0 ∧ 0 ≤ (g3.2.1.size : Int) ∧ (g3.2.1.size : Int) ≤ (g3.1.size : Int) ∧
    F101_J5 K g g2.1 g2.2.1 (decide (g3.1.extract (0 : Int).toNat (g3.2.1.size : Int).toNat = g3.2.1)))
  else (
    F101_J5 K g g2.1 g2.2.1 false)
theorem F101_eq (g : prodL L101) (K X : Kn) : F101 g K = dfun D (gamX [(108, rw108)] []) (isRaw [(108, rw108)]) H101 J101 34 [.tmp 2] (codeOf Tryd.f101) (argsT S101 L101 g) [] (settle0 K) X := by kernel_rfl
theorem F101_ok (g : prodL L101) (K X : Kn) (h : F101 g K) : FCalls Tryd.prog 101 (argsT S101 L101 g) [] K X :=
  FCalls.settle0 (dfun_sound (Γ := gamX [(108, rw108)] []) (mu := isRaw [(108, rw108)]) (H := H101) (J := J101) D_ok (gamX_ok (rs := [(108, rw108)]) (l := []) (by intro p hp; simp only [List.mem_cons, List.not_mem_nil, or_false] at hp; subst hp; exact rw108_ok) (fun p hp => by cases hp)) gamX_det rfl Tryd.func101 (c := codeOf Tryd.f101) rfl Tryd.ntmps101 (rs := [.tmp 2]) Tryd.results101 (by unfold enters; rw [Tryd.func101]; kernel_rfl) (Nat.le_of_ble_eq_true (by kernel_rfl)) (X := X) (c0 := 0) (Eq.mp (F101_eq g K X) h))
end Go.Proofs.YtoclmkbjgmgekaaDoor
namespace Go.Proofs.YtoclmkbjgmgekaaDoor
set_option linter.unusedVariables false
set_option linter.unusedSimpArgs false
set_option linter.unusedSectionVars false
open Go.RowKit
theorem bl_len (s : ByteArray) : (bl s).length = s.size := by unfold bl; simp
theorem bl_get (s : ByteArray) (n : Nat) : s[n]? = (bl s)[n]? := by
  unfold bl
  by_cases h : n < s.size
  · rw [getElem?_pos s n h, List.getElem?_eq_getElem (by simpa using h)]
    simp [ByteArray.getElem_eq_getElem_data]
  · rw [getElem?_neg s n h, List.getElem?_eq_none (by simpa using Nat.le_of_not_lt h)]
theorem bl_extract (s : ByteArray) (a b : Nat) : bl (s.extract a b) = ((bl s).take b).drop a := by
  unfold bl
  rw [ByteArray.data_extract, Array.toList_extract, List.extract_eq_take_drop, List.drop_take]
theorem bl_inj {s t : ByteArray} (h : bl s = bl t) : s = t := by
  obtain ⟨s⟩ := s
  obtain ⟨t⟩ := t
  unfold bl at h
  simp only at h
  rw [Array.toList_inj.1 h]
theorem bl_mk (l : List UInt8) : bl ⟨l.toArray⟩ = l := by simp [bl]
theorem mk_bl (s : ByteArray) : (⟨(bl s).toArray⟩ : ByteArray) = s := by simp [bl]
theorem StrAt_of {s : ByteArray} {n : Nat} {c : UInt8} {r : List UInt8} {K : Int → Prop} (h : (bl s).drop n = c :: r) (hK : K (c.toNat : Int)) : StrAt s (n : Int) K := by
  refine ⟨by omega, c, ?_, hK⟩
  rw [Int.toNat_natCast, bl_get]
  have := congrArg (·[0]?) h
  simpa using this
theorem drop_next {α : Type} {l r : List α} {n : Nat} {c : α} (h : l.drop n = c :: r) : l.drop (n + 1) = r ∧ n < l.length ∧ r.length + n + 1 = l.length := by
  have h1 := congrArg List.length h
  simp only [List.length_drop, List.length_cons] at h1
  refine ⟨?_, by omega, by omega⟩
  rw [← List.drop_drop, h]; rfl
theorem digit_val {c : UInt8} (h1 : 48 ≤ c.toNat) (h2 : c.toNat ≤ 57) : IntKind.i64.wrap (IntKind.u8.wrap ((c.toNat : Int) - 48)) = ((c.toNat - 48 : Nat) : Int) := by
  have : IntKind.u8.wrap ((c.toNat : Int) - 48) = (c.toNat : Int) - 48 := by simp [IntKind.wrap, IntKind.bits, IntKind.signed]; omega
  rw [this, wrap64 (by omega) (by omega)]; omega
def rw99 : Raw := ⟨S99, O99, L99, 0, fun g K X => nextPre g ∧ nextF g K X⟩
theorem rw99_ok : rw99.Ok Tryd.prog 99 := by
  rintro ⟨s, p, n, ⟨⟩⟩ K X ⟨⟨h1, h2, h3⟩, h⟩
  refine F99_ok _ K X ?_
  obtain ⟨q, rfl⟩ := Int.eq_ofNat_of_zero_le h1
  unfold nextF at h
  unfold F99
  dsimp only [Lf.ty, prodL] at h2 h ⊢
  rw [Int.toNat_natCast] at h
  rw [bif_dec]
  have hl := bl_len s
  cases hd : (bl s).drop q with
  | nil =>
    have := List.drop_eq_nil_iff.1 hd
    rw [hd] at h
    rw [if_pos (by omega)]
    exact h
  | cons c r =>
    obtain ⟨_, d2, _⟩ := drop_next hd
    rw [hd] at h
    rw [if_neg (by omega)]
    exact StrAt_of hd h
end Go.Proofs.YtoclmkbjgmgekaaDoor
namespace Go.Proofs.YtoclmkbjgmgekaaDoor
set_option linter.unusedVariables false
set_option linter.unusedSimpArgs false
set_option linter.unusedSectionVars false
open Go.RowKit
attribute [local irreducible] dfun dround
def H100 : List (Nat × Hint) := [(4, ⟨[], [(0, .pt 0 0), (3, .leaf), (4, .leaf)], [.cells [.leaf, .leaf, .leaf]], [.int .i64, .bool, .str, .int .i64, .int .i64]⟩)]
def J100 : List (Nat × Hint) := [(6, ⟨[], [(0, .pt 0 0), (3, .leaf), (4, .leaf), (5, .leaf), (13, .leaf)], [.cells [.leaf, .leaf, .leaf]], [.int .i64, .bool, .int .u8, .bool, .str, .int .i64, .int .i64]⟩), (9, ⟨[], [(0, .pt 0 0), (3, .leaf), (5, .leaf), (35, .leaf)], [.cells [.leaf, .leaf, .leaf]], [.int .i64, .int .u8, .bool, .str, .int .i64, .int .i64]⟩)]
abbrev S100 : List Sh := [.pt 0 0]
abbrev L100 : List Lf := [.str, .int .i64, .int .i64]
abbrev O100 : List ObSh := [.cells [.leaf, .leaf, .leaf]]
def F100_J8 (K X : Kn) (W2 : prodL [.int .i64, .bool, .str, .int .i64, .int .i64] → Prop) (n_7 : Int) (c_7 : Int) (t_7 : Bool) (o01_7 : ByteArray) (o02_7 : Int) (o03_7 : Int) : Prop :=
  bif t_7 then (
    X (.ic 113 (.ag [.int .i64 12])) [some (.cells [.str o01_7, .int .i64 o02_7, .int .i64 o03_7])])
  else (
    bif decide (65536 < IntKind.i64.wrap ((IntKind.i64.wrap (10 * n_7)) + (IntKind.i64.wrap (IntKind.u8.wrap (c_7 - 48))))) then (
    X (.ic 113 (.ag [.int .i64 12])) [some (.cells [.str o01_7, .int .i64 o02_7, .int .i64 o03_7])])
  else (
    W2 (IntKind.i64.wrap ((IntKind.i64.wrap (10 * n_7)) + (IntKind.i64.wrap (IntKind.u8.wrap (c_7 - 48)))), false, o01_7, IntKind.i64.wrap (o02_7 + 1), o03_7, ())))
def F100_J6 (K X : Kn) (W2 : prodL [.int .i64, .bool, .str, .int .i64, .int .i64] → Prop) (n_5 : Int) (first_5 : Bool) (c_5 : Int) (t_5 : Bool) (o01_5 : ByteArray) (o02_5 : Int) (o03_5 : Int) : Prop :=
  bif t_5 then (
    K (.int .i64 n_5) [some (.cells [.str o01_5, .int .i64 (IntKind.i64.wrap (o02_5 + 1)), .int .i64 o03_5])])
  else (
    bif decide (c_5 < 48) then (
    F100_J8 K X W2 n_5 c_5 true o01_5 o02_5 o03_5)
  else (
    bif decide (57 < c_5) then (
      F100_J8 K X W2 n_5 c_5 true o01_5 o02_5 o03_5)
    else (
      bif !first_5 then (
        F100_J8 K X W2 n_5 c_5 (decide (n_5 = 0)) o01_5 o02_5 o03_5)
      else (
        F100_J8 K X W2 n_5 c_5 false o01_5 o02_5 o03_5))))
def F100_B2 (K X : Kn) (W2 : prodL [.int .i64, .bool, .str, .int .i64, .int .i64] → Prop) (n_1 : Int) (first_1 : Bool) (o01_1 : ByteArray) (o02_1 : Int) (o03_1 : Int) : Prop :=
  nextPre (o01_1, o02_1, o03_1, ()) ∧
  Res.go (headR ((bl o01_1).drop o02_1.toNat)) (fun a3 =>
  bif decide ((a3.toNat : Int) = 58) then (
    F100_J6 K X W2 n_1 first_1 (a3.toNat : Int) (!first_1) o01_1 o02_1 o03_1)
  else (
    F100_J6 K X W2 n_1 first_1 (a3.toNat : Int) false o01_1 o02_1 o03_1)) (fun e4 =>
  X (.ic 113 (.ag [.int .i64 e4])) [some (.cells [.str o01_1, .int .i64 o02_1, .int .i64 o03_1])])
def F100_L2 (K X : Kn) (g : prodL [.int .i64, .bool, .str, .int .i64, .int .i64]) : Prop :=
  LoopW (γ := prodL [.int .i64, .bool, .str, .int .i64, .int .i64]) (fun V y => F100_B2 K X V y.1 y.2.1 y.2.2.1 y.2.2.2.1 y.2.2.2.2.1) g
def F100 (g : prodL L100) (K X : Kn) : Prop :=
  F100_L2 K X (0, true, g.1, g.2.1, g.2.2.1, ())
theorem F100_eq (g : prodL L100) (K X : Kn) : F100 g K X = dfun D (gamX [(99, rw99)] []) (isRaw [(99, rw99)]) H100 J100 55 [.tmp 2] (codeOf Tryd.f100) (argsT S100 L100 g) (storeT S100 O100 L100 g) (settleD (storeT S100 O100 L100 g).length 0 K) (settleD (storeT S100 O100 L100 g).length 0 X) 0 := by kernel_rfl
theorem F100_ok (g : prodL L100) (K X : Kn) (h : F100 g K X) : FCalls Tryd.prog 100 (argsT S100 L100 g) (storeT S100 O100 L100 g) K X 0 :=
  FCalls.settleX (FCalls.settleD (dfun_sound (Γ := gamX [(99, rw99)] []) (mu := isRaw [(99, rw99)]) (H := H100) (J := J100) D_ok (gamX_ok (rs := [(99, rw99)]) (l := []) (by intro p hp; simp only [List.mem_cons, List.not_mem_nil, or_false] at hp; subst hp; exact rw99_ok) (fun p hp => by cases hp)) gamX_det rfl Tryd.func100 (c := codeOf Tryd.f100) rfl Tryd.ntmps100 (rs := [.tmp 2]) Tryd.results100 (by unfold enters; rw [Tryd.func100]; kernel_rfl) (Nat.le_of_ble_eq_true (by kernel_rfl)) (X := (settleD (storeT S100 O100 L100 g).length 0 X)) (c0 := 0) (Eq.mp (F100_eq g K X) h)))
end Go.Proofs.YtoclmkbjgmgekaaDoor
namespace Go.Proofs.YtoclmkbjgmgekaaDoor
set_option linter.unusedVariables false
set_option linter.unusedSimpArgs false
set_option linter.unusedSectionVars false
open Go.RowKit
theorem F100_is {p : Nat} {s : ByteArray} {k : Int} {K X : Kn} (hp : p ≤ s.size) (hs : s.size ≤ 2147483648) (h : numF (s, (p : Int), k, ()) K X) : F100 (s, (p : Int), k, ()) K X := by
  unfold numF at h
  dsimp only [Lf.ty, prodL] at h
  rw [Int.toNat_natCast] at h
  have hl := bl_len s
  unfold F100 F100_L2
  dsimp only [Lf.ty, prodL]
  refine LoopW.of (fun g => ∃ (first : Bool) (n q : Nat), g = ((n : Int), first, s, (q : Int), k, ()) ∧ q ≤ s.size ∧ n ≤ 65536 ∧ Res.go (numR first n ((bl s).drop q)) (fun a => K (.int .i64 (a.1 : Int)) [some (.cells [.str s, .int .i64 ((s.size : Int) - (a.2.length : Int)), .int .i64 k])]) (fun e => ∀ p : Int, X (.ic 113 (.ag [.int .i64 e])) [some (.cells [.str s, .int .i64 p, .int .i64 k])]))
    (fun g => s.size - g.2.2.2.1.toNat) ?_ ⟨true, 0, p, rfl, hp, by omega, h⟩
  rintro g ⟨first, n, q, rfl, i1, i2, i3⟩ W hW
  unfold F100_B2
  dsimp only
  refine ⟨⟨by dsimp only; omega, by dsimp only; omega, by rw [lim_eq]; exact hs⟩, ?_⟩
  rw [Int.toNat_natCast]
  cases hd : (bl s).drop q with
  | nil =>
    rw [hd] at i3
    exact i3 _
  | cons c r =>
    obtain ⟨d1, d2, d3⟩ := drop_next hd
    rw [hd] at i3
    simp only [numR] at i3
    show bif decide ((c.toNat : Int) = 58) then _ else _
    have w1 : IntKind.i64.wrap ((q : Int) + 1) = ((q + 1 : Nat) : Int) := by rw [wrap64 (by omega) (by omega)]; omega
    have hJ8 : ∀ t : Bool, (t = true ↔ (c.toNat < 48 ∨ 57 < c.toNat ∨ (first = false ∧ n = 0))) → ¬ (c.toNat = 58 ∧ first = false) → F100_J8 K X W (n : Int) (c.toNat : Int) t s (q : Int) k := fun t ht hn => by
      rw [if_neg hn] at i3
      unfold F100_J8
      cases t
      · have hn2 : ¬ (c.toNat < 48 ∨ 57 < c.toNat ∨ (first = false ∧ n = 0)) := fun h => by have := ht.2 h; cases this
        rw [if_neg hn2] at i3
        have h1 : 48 ≤ c.toNat := by omega
        have h2 : c.toNat ≤ 57 := by omega
        have hval : IntKind.i64.wrap ((IntKind.i64.wrap (10 * (n : Int))) + (IntKind.i64.wrap (IntKind.u8.wrap ((c.toNat : Int) - 48)))) = ((10 * n + (c.toNat - 48) : Nat) : Int) := by
          rw [digit_val h1 h2, wrap64 (n := 10 * (n : Int)) (by omega) (by omega), wrap64 (by omega) (by omega)]; omega
        rw [cond_false, hval, bif_dec, w1]
        by_cases h3 : 65536 < 10 * n + (c.toNat - 48)
        · rw [if_pos h3] at i3
          rw [if_pos (by omega)]
          exact i3 _
        · rw [if_neg h3] at i3
          rw [if_neg (by omega)]
          refine hW _ ⟨false, _, q + 1, rfl, by omega, by omega, by rw [d1]; exact i3⟩ ?_
          dsimp only
          rw [Int.toNat_natCast, Int.toNat_natCast]; omega
      · rw [if_pos (ht.1 rfl)] at i3
        exact i3 _
    have hJ6 : ¬ (c.toNat = 58 ∧ first = false) → F100_J6 K X W (n : Int) first (c.toNat : Int) false s (q : Int) k := fun hn => by
      unfold F100_J6
      rw [cond_false, bif_dec]
      split
      · exact hJ8 _ ⟨fun _ => .inl (by omega), fun _ => rfl⟩ hn
      · rw [bif_dec]
        split
        · exact hJ8 _ ⟨fun _ => .inr (.inl (by omega)), fun _ => rfl⟩ hn
        · rw [bif_not]
          cases first
          · rw [cond_false]
            refine hJ8 _ ⟨fun h => .inr (.inr ⟨rfl, by have := of_decide_eq_true h; omega⟩), fun h => decide_eq_true (by omega)⟩ hn
          · rw [cond_true]
            refine hJ8 false ⟨fun h => Bool.noConfusion h, fun h => ?_⟩ hn
            rcases h with h | h | h
            · omega
            · omega
            · cases h.1
    rw [bif_dec]
    by_cases h58 : c.toNat = 58
    · rw [if_pos (by omega)]
      cases first
      · rw [if_pos ⟨h58, rfl⟩] at i3
        unfold F100_J6
        rw [Bool.not_false, cond_true, w1, show ((q + 1 : Nat) : Int) = (s.size : Int) - (r.length : Int) by omega]
        exact i3
      · exact hJ6 (by simp)
    · rw [if_neg (by omega)]
      exact hJ6 (fun h => h58 h.1)
def rw100 : Raw := ⟨S100, O100, L100, 0, fun g K X => nextPre g ∧ numF g K X⟩
theorem rw100_ok : rw100.Ok Tryd.prog 100 := by
  rintro ⟨s, p, n, ⟨⟩⟩ K X ⟨⟨h1, h2, h3⟩, h⟩
  obtain ⟨q, rfl⟩ := Int.eq_ofNat_of_zero_le h1
  rw [lim_eq] at h3
  exact F100_ok _ K X (F100_is (Int.ofNat_le.1 h2) (by dsimp only [Lf.ty] at *; omega) h)
theorem digs_cons (c : UInt8) (r : List UInt8) : digs (c :: r) = (decide (48 ≤ c.toNat) && decide (c.toNat ≤ 57) && digs r) := rfl
def strP (s : ByteArray) : Prop := s.size ≤ 4294967296
theorem F101_loop {s d : ByteArray} {K : Kn} (hs : d.size ≤ 4294967296) (h : K (.bool (digs (bl d) && !decide (bl d = []) && (!head48 (bl d) || decide (bl s = [48])))) []) : F101_J14 K s d := by
  have hl := bl_len d
  unfold F101_J14 F101_L8
  refine LoopW.fold (bl d) (fun n (_ : Unit) => (s, d, (d.size : Int), (n : Int), ())) (fun r n _ => K (.bool (digs r && !decide (bl d = []) && (!head48 (bl d) || decide (bl s = [48])))) [] ∧ (bl d).drop n = r) (a0 := ()) rfl ⟨h, rfl⟩ (fun _ hp W => ?_) (fun n hn r _ hr hp W hW => ?_)
  · unfold F101_B8
    rw [bif_dec, if_neg (by dsimp only; omega), bif_not, bif_dec]
    have hp := hp.1
    dsimp only
    have hd0 : d = (⟨#[]⟩ : ByteArray) ↔ bl d = [] := ⟨fun e => by rw [e]; rfl, fun e => bl_inj (by rw [e]; rfl)⟩
    cases hb : bl d with
    | nil =>
      rw [hb] at hp
      rw [if_pos (hd0.2 hb)]
      exact hp
    | cons c r =>
      rw [hb] at hp
      rw [if_neg (fun e => by rw [hd0.1 e] at hb; cases hb)]
      refine StrAt_of (n := 0) (by rw [List.drop_zero]; exact hb) ?_
      simp only [digs, List.all_nil, Bool.true_and, reduceCtorEq, decide_false, Bool.not_false, head48] at hp
      have e1 : decide ((c.toNat : Int) = 48) = decide (c.toNat = 48) := decide_eq_decide.2 (by omega)
      have e2 : decide (s = (⟨#[48]⟩ : ByteArray)) = decide (bl s = [48]) := decide_eq_decide.2 ⟨fun e => by rw [e]; rfl, fun e => bl_inj (by rw [e]; rfl)⟩
      rw [bif_not, e1, e2]
      cases hx : decide (c.toNat = 48)
      · rw [hx] at hp; exact hp
      · rw [hx] at hp; exact hp
  · unfold F101_B8
    obtain ⟨hp, hd⟩ := hp
    obtain ⟨d1, _, _⟩ := drop_next hd
    rw [bif_dec, if_pos (by dsimp only; omega)]
    dsimp only
    refine StrAt_of hd ?_
    rw [digs_cons] at hp
    rw [bif_dec]
    split
    · rename_i h1
      rw [decide_eq_false (show ¬ 48 ≤ (bl d)[n].toNat by omega)] at hp
      exact hp
    · rename_i h1
      refine StrAt_of hd ?_
      rw [decide_eq_true (show 48 ≤ (bl d)[n].toNat by omega), Bool.true_and] at hp
      unfold F101_J12
      by_cases h2 : 57 < (bl d)[n].toNat
      · rw [decide_eq_false (show ¬ (bl d)[n].toNat ≤ 57 by omega)] at hp
        rw [decide_eq_true (by omega)]
        exact hp
      · rw [decide_eq_true (show (bl d)[n].toNat ≤ 57 by omega), Bool.true_and] at hp
        rw [decide_eq_false (by omega), cond_false, wrapS hn (by omega)]
        exact hW () ⟨hp, d1⟩
theorem F101_is {s : ByteArray} {K : Kn} (hs : s.size ≤ 4294967296) (h : K (.bool (canR (bl s))) []) : F101 (s, ()) K := by
  have hl := bl_len s
  unfold F101
  dsimp only [Lf.ty, prodL]
  unfold canR at h
  have hsz : (⟨#[45]⟩ : ByteArray).size = 1 := rfl
  have key : (bl s).head? ≠ some 45 → F101_J5 K (s, ()) s (⟨#[45]⟩ : ByteArray) false := fun hn => by
    rw [if_neg hn] at h
    exact F101_loop hs h
  rw [bif_dec, hsz]
  cases hb : bl s with
  | nil =>
    rw [hb] at hl
    simp at hl
    rw [if_neg (by omega)]
    exact key (by rw [hb]; simp)
  | cons c r =>
    rw [hb] at hl
    simp only [List.length_cons] at hl
    rw [if_pos (by omega)]
    refine ⟨by omega, by omega, by omega, ?_⟩
    have e1 : bl (s.extract (0 : Int).toNat ((1 : Nat) : Int).toNat) = [c] := by rw [bl_extract, hb]; rfl
    have e2 : decide (s.extract (0 : Int).toNat ((1 : Nat) : Int).toNat = (⟨#[45]⟩ : ByteArray)) = decide (c = 45) := decide_eq_decide.2 ⟨fun e => by
      rw [e] at e1
      simp [bl] at e1
      exact e1.symm, fun e => bl_inj (by rw [e1, e]; rfl)⟩
    rw [e2]
    by_cases hc : c = 45
    · rw [decide_eq_true hc]
      unfold F101_J5
      rw [cond_true, hsz]
      refine ⟨by omega, by omega, by omega, ?_⟩
      have he : bl (s.extract ((1 : Nat) : Int).toNat (s.size : Int).toNat) = r := by
        rw [bl_extract, hb, Int.toNat_natCast, Int.toNat_natCast, List.take_of_length_le (by simp only [List.length_cons]; omega)]; rfl
      rw [hb, hc] at h
      simp only [List.head?_cons, if_true, List.tail_cons] at h
      refine F101_loop (by rw [← bl_len, he]; omega) ?_
      rw [he, hb, hc]
      exact h
    · rw [decide_eq_false hc]
      exact key (by rw [hb]; simpa using hc)
def sp101 : Sp := ⟨S101, L101, fun g => strP g.1, fun g => .bool (canR (bl g.1)), fun _ => none⟩
theorem sp101_ok : sp101.Ok Tryd.prog 101 true :=
  ⟨by rintro ⟨s, ⟨⟩⟩ K X q1 h; exact F101_ok _ _ X (F101_is q1 h), fun _ _ _ => rfl, fun _ => rfl, fun _ _ => ⟨rfl, rfl⟩⟩
end Go.Proofs.YtoclmkbjgmgekaaDoor
namespace Go.Proofs.YtoclmkbjgmgekaaDoor
set_option linter.unusedVariables false
set_option linter.unusedSimpArgs false
set_option linter.unusedSectionVars false
open Go.RowKit
attribute [local irreducible] dfun dround
end Go.Proofs.YtoclmkbjgmgekaaDoor
namespace Go.Proofs.YtoclmkbjgmgekaaDoor
set_option linter.unusedVariables false
set_option linter.unusedSimpArgs false
set_option linter.unusedSectionVars false
open Go.RowKit
attribute [local irreducible] dfun dround
def H90 : List (Nat × Hint) := [(13, ⟨[((4, []), none), ((7, []), none), ((7, [2]), some .sexp)], [(0, .pt 0 0), (1, .leaf), (4, .pt 1 0), (7, .pt 2 0)], [.cells [.leaf, .leaf, .leaf], .cells [.leaf, .leaf, .nil], .cells [.leaf, .leaf, .oa .sexp 3], .arr .sexp], [.int .i64, .str, .int .i64, .int .i64, .bool, .str, .bool, .str, .sl .sexp]⟩)]
def J90 : List (Nat × Hint) := [(4, ⟨[((4, []), none)], [(0, .pt 0 0), (1, .leaf), (4, .pt 1 0), (5, .leaf), (25, .leaf)], [.cells [.leaf, .leaf, .leaf], .cells [.leaf, .leaf, .nil]], [.int .i64, .int .u8, .bool, .str, .int .i64, .int .i64, .bool, .str]⟩)]
abbrev S90 : List Sh := [.pt 0 0, .leaf]
abbrev L90 : List Lf := [.int .i64, .str, .int .i64, .int .i64]
abbrev O90 : List ObSh := [.cells [.leaf, .leaf, .leaf]]
def rwz90 (Z : prodL L90 → Prop) : Raw := ⟨S90, O90, L90, 0, fun g K X => Z g ∧ sexpF g K X⟩
def F90_B17 (K X : Kn) (Z : prodL L90 → Prop) (W17 : prodL [.int .i64, .str, .int .i64, .int .i64, .bool, .str, .bool, .str, .sl .sexp] → Prop) (level_16 : Int) (o01_16 : ByteArray) (o02_16 : Int) (o03_16 : Int) (t1_16 : Bool) (t2_16 : ByteArray) (out1_16 : Bool) (out2_16 : ByteArray) (out_16 : List Sx) : Prop :=
  nextPre (o01_16, o02_16, o03_16, ()) ∧
  Res.go (headR ((bl o01_16).drop o02_16.toNat)) (fun a18 =>
  bif !decide ((a18.toNat : Int) = 41) then (
    Z (IntKind.i64.wrap (level_16 + 1), o01_16, o02_16, o03_16, ()) ∧
  Res.go (rdS (13 - (IntKind.i64.wrap (level_16 + 1))).toNat o03_16.toNat ((bl o01_16).drop o02_16.toNat)) (fun a20 =>
  Room (out_16.length + [(⟨a20.1.isList, a20.1.atom, a20.1.list⟩ : Sx)].length) 48 (
  W17 (level_16, o01_16, (o01_16.size : Int) - (a20.2.2.length : Int), (a20.2.1 : Int), t1_16, t2_16, out1_16, out2_16, out_16 ++ [(⟨a20.1.isList, a20.1.atom, a20.1.list⟩ : Sx)], ()))) (fun e21 => ∀ (p22 m23 : Int),
  ∀ _ : Tm,
  X (.ic 113 (.ag [.int .i64 e21])) [some (.cells [.str o01_16, .int .i64 p22, .int .i64 m23])]))
  else (
    K (.ag [.bool out1_16, .str out2_16, .sl false .sexp out_16]) [some (.cells [.str o01_16, .int .i64 (IntKind.i64.wrap (o02_16 + 1)), .int .i64 o03_16])])) (fun e19 =>
  X (.ic 113 (.ag [.int .i64 e19])) [some (.cells [.str o01_16, .int .i64 o02_16, .int .i64 o03_16])])
def F90_L17 (K X : Kn) (Z : prodL L90 → Prop) (g : prodL [.int .i64, .str, .int .i64, .int .i64, .bool, .str, .bool, .str, .sl .sexp]) : Prop :=
  LoopW (γ := prodL [.int .i64, .str, .int .i64, .int .i64, .bool, .str, .bool, .str, .sl .sexp]) (fun V y => F90_B17 K X Z V y.1 y.2.1 y.2.2.1 y.2.2.2.1 y.2.2.2.2.1 y.2.2.2.2.2.1 y.2.2.2.2.2.2.1 y.2.2.2.2.2.2.2.1 y.2.2.2.2.2.2.2.2.1) g
def F90_J4 (K X : Kn) (Z : prodL L90 → Prop) (level_3 : Int) (c_3 : Int) (t_3 : Bool) (o01_3 : ByteArray) (o02_3 : Int) (o03_3 : Int) (t1_3 : Bool) (t2_3 : ByteArray) : Prop :=
  bif t_3 then (
    X (.ic 113 (.ag [.int .i64 12])) [some (.cells [.str o01_3, .int .i64 o02_3, .int .i64 o03_3])])
  else (
    bif !decide (c_3 = 40) then (
    nextPre (o01_3, o02_3, o03_3, ()) ∧
    Res.go (numR true 0 ((bl o01_3).drop o02_3.toNat)) (fun a5 =>
    bif decide (IntKind.i64.wrap ((o01_3.size : Int) - ((o01_3.size : Int) - (a5.2.length : Int))) < (a5.1 : Int)) then (
      X (.ic 113 (.ag [.int .i64 11])) [some (.cells [.str o01_3, .int .i64 ((o01_3.size : Int) - (a5.2.length : Int)), .int .i64 o03_3])])
    else (
      (0 : Int) ≤ IntKind.i64.wrap ((IntKind.i64.wrap (((o01_3.size : Int) - (a5.2.length : Int)) + (a5.1 : Int))) - (a5.1 : Int)) ∧ IntKind.i64.wrap ((IntKind.i64.wrap (((o01_3.size : Int) - (a5.2.length : Int)) + (a5.1 : Int))) - (a5.1 : Int)) ≤ IntKind.i64.wrap (((o01_3.size : Int) - (a5.2.length : Int)) + (a5.1 : Int)) ∧ IntKind.i64.wrap (((o01_3.size : Int) - (a5.2.length : Int)) + (a5.1 : Int)) ≤ (o01_3.size : Int) ∧
    K (.ag [.bool false, .str (o01_3.extract (IntKind.i64.wrap ((IntKind.i64.wrap (((o01_3.size : Int) - (a5.2.length : Int)) + (a5.1 : Int))) - (a5.1 : Int))).toNat (IntKind.i64.wrap (((o01_3.size : Int) - (a5.2.length : Int)) + (a5.1 : Int))).toNat), .nil]) [some (.cells [.str o01_3, .int .i64 (IntKind.i64.wrap (((o01_3.size : Int) - (a5.2.length : Int)) + (a5.1 : Int))), .int .i64 o03_3])])) (fun e6 => ∀ p7 : Int,
    X (.ic 113 (.ag [.int .i64 e6])) [some (.cells [.str o01_3, .int .i64 p7, .int .i64 o03_3])]))
  else (
    F90_L17 K X Z (level_3, o01_3, IntKind.i64.wrap (o02_3 + 1), o03_3, t1_3, t2_3, true, (⟨#[]⟩ : ByteArray), [], ())))
def F90 (Z : prodL L90 → Prop) (g : prodL L90) (K X : Kn) : Prop :=
  nextPre (g.2.1, g.2.2.1, g.2.2.2.1, ()) ∧
  Res.go (headR ((bl g.2.1).drop g.2.2.1.toNat)) (fun a1 =>
  bif decide (20000 < IntKind.i64.wrap (g.2.2.2.1 + 1)) then (
    F90_J4 K X Z g.1 (a1.toNat : Int) true g.2.1 g.2.2.1 (IntKind.i64.wrap (g.2.2.2.1 + 1)) false (⟨#[]⟩ : ByteArray))
  else (
    F90_J4 K X Z g.1 (a1.toNat : Int) (decide (12 < g.1)) g.2.1 g.2.2.1 (IntKind.i64.wrap (g.2.2.2.1 + 1)) false (⟨#[]⟩ : ByteArray))) (fun e2 =>
  X (.ic 113 (.ag [.int .i64 e2])) [some (.cells [.str g.2.1, .int .i64 g.2.2.1, .int .i64 g.2.2.2.1])])
theorem F90_eq (Z : prodL L90 → Prop) (g : prodL L90) (K X : Kn) : F90 Z g K X = dfun D (gamX [(90, rwz90 Z), (99, rw99), (100, rw100)] []) (isRaw [(90, rwz90 Z), (99, rw99), (100, rw100)]) H90 J90 98 [.cell 4 58] (codeOf Tryd.f90) (argsT S90 L90 g) (storeT S90 O90 L90 g) (settleG (storeT S90 O90 L90 g).length 0 K) (settleD (storeT S90 O90 L90 g).length 0 X) 0 := by kernel_rfl
theorem F90_ok (Z : prodL L90 → Prop) (hZ : (rwz90 Z).Ok Tryd.prog 90) (g : prodL L90) (K X : Kn) (h : F90 Z g K X) : FCalls Tryd.prog 90 (argsT S90 L90 g) (storeT S90 O90 L90 g) K X 0 :=
  FCalls.settleX (FCalls.settleG (dfun_sound (Γ := gamX [(90, rwz90 Z), (99, rw99), (100, rw100)] []) (mu := isRaw [(90, rwz90 Z), (99, rw99), (100, rw100)]) (H := H90) (J := J90) D_ok (gamX_ok (rs := [(90, rwz90 Z), (99, rw99), (100, rw100)]) (l := []) (by intro p hp; simp only [List.mem_cons, List.not_mem_nil, or_false] at hp; rcases hp with rfl | rfl | rfl <;> first | exact hZ | exact rw99_ok | exact rw100_ok) (fun p hp => by cases hp)) gamX_det rfl Tryd.func90 (c := codeOf Tryd.f90) rfl Tryd.ntmps90 (rs := [.cell 4 58]) Tryd.results90 (by unfold enters; rw [Tryd.func90]; kernel_rfl) (Nat.le_of_ble_eq_true (by kernel_rfl)) (X := (settleD (storeT S90 O90 L90 g).length 0 X)) (c0 := 0) (Eq.mp (F90_eq Z g K X) h)))
end Go.Proofs.YtoclmkbjgmgekaaDoor
namespace Go.Proofs.YtoclmkbjgmgekaaDoor
set_option linter.unusedVariables false
set_option linter.unusedSimpArgs false
set_option linter.unusedSectionVars false
open Go.RowKit
theorem numR_ok : ∀ (l : List UInt8) (first : Bool) (n m : Nat) (r : List UInt8), numR first n l = .ok (m, r) → (∃ p, p ≠ [] ∧ l = p ++ r) ∧ (n ≤ 65536 → m ≤ 65536)
  | [], _, _, _, _, h => by simp [numR] at h
  | c :: l, first, n, m, r, h => by
    simp only [numR] at h
    split at h
    · simp only [Res.ok.injEq, Prod.mk.injEq] at h
      obtain ⟨rfl, rfl⟩ := h
      exact ⟨⟨[c], by simp, rfl⟩, fun h => h⟩
    · split at h
      · cases h
      · split at h
        · cases h
        · rename_i h3
          obtain ⟨⟨p, _, hp⟩, hm⟩ := numR_ok l false _ m r h
          exact ⟨⟨c :: p, by simp, by rw [hp]; rfl⟩, fun _ => hm (by omega)⟩
theorem numR_err : ∀ (l : List UInt8) (first : Bool) (n : Nat) (e : Int), numR first n l = .err e → e = 11 ∨ e = 12
  | [], _, _, _, h => by simp only [numR, Res.err.injEq] at h; exact .inl h.symm
  | c :: l, first, n, e, h => by
    simp only [numR] at h
    split at h
    · cases h
    · split at h
      · simp only [Res.err.injEq] at h; exact .inr h.symm
      · split at h
        · simp only [Res.err.injEq] at h; exact .inr h.symm
        · exact numR_err l false _ e h
theorem atomR_ok {l a r : List UInt8} (h : atomR l = .ok (a, r)) : ∃ p, p ≠ [] ∧ l = p ++ a ++ r := by
  unfold atomR atomG at h
  split at h
  · cases h
  · rename_i n q hq
    split at h
    · cases h
    · simp only [Res.ok.injEq, Prod.mk.injEq] at h
      obtain ⟨rfl, rfl⟩ := h
      obtain ⟨⟨p, h1, h2⟩, _⟩ := numR_ok l true 0 n q hq
      exact ⟨p, h1, by rw [List.append_assoc, List.take_append_drop]; exact h2⟩
theorem atomR_err {l : List UInt8} {e : Int} (h : atomR l = .err e) : e = 11 ∨ e = 12 := by
  unfold atomR atomG at h
  split at h
  · rename_i e' h'
    simp only [Res.err.injEq] at h
    subst h
    exact numR_err l true 0 _ h'
  · split at h
    · simp only [Res.err.injEq] at h; exact .inl h.symm
    · cases h
def Sound (f : Nat → List UInt8 → Res (Sx × Nat × List UInt8) Int) : Prop :=
  ∀ (k : Nat) (l : List UInt8), k ≤ 20000 → (∀ x k' r, f k l = .ok (x, k', r) → (∃ p, p ≠ [] ∧ l = p ++ r ∧ bkS x ≤ 4 * p.length) ∧ k < k' ∧ k' ≤ 20000) ∧ ∀ e, f k l = .err e → e = 11 ∨ e = 12
theorem rdL_sound {f : Nat → List UInt8 → Res (Sx × Nat × List UInt8) Int} (hf : Sound f) : ∀ (m k : Nat) (l : List UInt8) (acc : List Sx), k ≤ 20000 → l.length < m →
    (∀ xs k' r, rdL f m k l acc = .ok (xs, k', r) → (∃ p ys, p ≠ [] ∧ l = p ++ r ∧ xs = acc ++ ys ∧ bkSs ys ≤ 4 * (p.length - 1)) ∧ k ≤ k' ∧ k' ≤ 20000) ∧ ∀ e, rdL f m k l acc = .err e → e = 11 ∨ e = 12
  | 0, _, _, _, _, h => absurd h (Nat.not_lt_zero _)
  | m + 1, k, [], acc, hk, _ => ⟨fun _ _ _ h => (by simp [rdL] at h), fun e h => by simp only [rdL, Res.err.injEq] at h; exact .inl h.symm⟩
  | m + 1, k, c :: l, acc, hk, hm => by
    simp only [rdL]
    by_cases hc : c.toNat = 41
    · rw [if_pos hc]
      refine ⟨fun xs k' r h => ?_, fun e h => by cases h⟩
      simp only [Res.ok.injEq, Prod.mk.injEq] at h
      obtain ⟨rfl, rfl, rfl⟩ := h
      exact ⟨⟨[c], [], by simp, rfl, by simp, by simp [bkSs]⟩, Nat.le_refl _, hk⟩
    · rw [if_neg hc]
      obtain ⟨h1, h2⟩ := hf k (c :: l) hk
      cases hx : f k (c :: l) with
      | err e => exact ⟨fun _ _ _ h => (by cases h), fun e' h => by simp only [Res.err.injEq] at h; subst h; exact h2 e hx⟩
      | ok a =>
        obtain ⟨x, k', r'⟩ := a
        obtain ⟨⟨p, hp, hl, hb⟩, q1, q2⟩ := h1 x k' r' hx
        have hlen : r'.length < m := by
          have := congrArg List.length hl
          have : 0 < p.length := List.length_pos_iff.2 hp
          simp only [List.length_append, List.length_cons] at *; omega
        obtain ⟨g1, g2⟩ := rdL_sound hf m k' r' (acc ++ [x]) q2 hlen
        refine ⟨fun xs k2 r h => ?_, fun e h => g2 e h⟩
        obtain ⟨⟨p2, ys, hp2, hl2, hxs, hbs⟩, q3, q4⟩ := g1 xs k2 r h
        have hpl : 0 < p2.length := List.length_pos_iff.2 hp2
        have hpl1 : 0 < p.length := List.length_pos_iff.2 hp
        refine ⟨⟨p ++ p2, x :: ys, by simp [hp], by rw [hl, hl2, List.append_assoc], by rw [hxs]; simp, ?_⟩, by omega, q4⟩
        simp only [bkSs, List.length_append]; omega
theorem rdS_sound : ∀ (d : Nat), Sound (rdS d)
  | 0 => fun k l hk => by
    cases l with
    | nil => exact ⟨fun _ _ _ h => (by simp [rdS] at h), fun e h => by simp only [rdS, Res.err.injEq] at h; exact .inl h.symm⟩
    | cons c l => exact ⟨fun _ _ _ h => (by simp [rdS] at h), fun e h => by simp only [rdS, Res.err.injEq] at h; exact .inr h.symm⟩
  | d + 1 => fun k l hk => by
    cases l with
    | nil => exact ⟨fun _ _ _ h => (by simp [rdS] at h), fun e h => by simp only [rdS, Res.err.injEq] at h; exact .inl h.symm⟩
    | cons c l =>
      simp only [rdS]
      by_cases h1 : 20000 < k + 1
      · rw [if_pos h1]
        exact ⟨fun _ _ _ h => (by cases h), fun e h => by simp only [Res.err.injEq] at h; exact .inr h.symm⟩
      rw [if_neg h1]
      by_cases h2 : c.toNat ≠ 40
      · rw [if_pos h2]
        cases ha : atomR (c :: l) with
        | err e => exact ⟨fun _ _ _ h => (by cases h), fun e' h => by simp only [Res.err.injEq] at h; subst h; exact atomR_err ha⟩
        | ok a =>
          obtain ⟨a, r⟩ := a
          refine ⟨fun x k' r' h => ?_, fun e h => by cases h⟩
          simp only [Res.ok.injEq, Prod.mk.injEq] at h
          obtain ⟨rfl, rfl, rfl⟩ := h
          obtain ⟨p, hp, hl⟩ := atomR_ok ha
          have : 0 < p.length := List.length_pos_iff.2 hp
          refine ⟨⟨p ++ a, by simp [hp], hl, ?_⟩, by omega, by omega⟩
          have hsz : (⟨a.toArray⟩ : ByteArray).size = a.length := by rw [← bl_len, bl_mk]
          simp only [bkS, bkSs, hsz, List.length_append]; omega
      · rw [if_neg h2]
        obtain ⟨g1, g2⟩ := rdL_sound (rdS_sound d) (l.length + 1) (k + 1) l [] (by omega) (Nat.lt_succ_self _)
        cases hx : rdL (rdS d) (l.length + 1) (k + 1) l [] with
        | err e => exact ⟨fun _ _ _ h => (by cases h), fun e' h => by simp only [Res.err.injEq] at h; subst h; exact g2 e hx⟩
        | ok a =>
          obtain ⟨xs, k', r⟩ := a
          refine ⟨fun x k2 r2 h => ?_, fun e h => by cases h⟩
          simp only [Res.ok.injEq, Prod.mk.injEq] at h
          obtain ⟨rfl, rfl, rfl⟩ := h
          obtain ⟨⟨p, ys, hp, hl, hxs, hb⟩, q1, q2⟩ := g1 xs k' r hx
          rw [List.nil_append] at hxs
          subst hxs
          have : 0 < p.length := List.length_pos_iff.2 hp
          have hsz : (⟨#[]⟩ : ByteArray).size = 0 := rfl
          refine ⟨⟨c :: p, by simp, by rw [hl]; rfl, ?_⟩, by omega, q2⟩
          simp only [bkS, hsz, List.length_cons]; omega
theorem drop_rest {s : ByteArray} {q : Nat} {p r : List UInt8} (h : (bl s).drop q = p ++ r) (hq : q ≤ s.size) : (s.size : Int) - (r.length : Int) = ((q + p.length : Nat) : Int) ∧ (bl s).drop (q + p.length) = r ∧ q + p.length ≤ s.size := by
  have hl := bl_len s
  have h1 := congrArg List.length h
  simp only [List.length_drop, List.length_append] at h1
  refine ⟨by omega, ?_, by omega⟩
  rw [← List.drop_drop, h, List.drop_left' rfl]
end Go.Proofs.YtoclmkbjgmgekaaDoor
namespace Go.Proofs.YtoclmkbjgmgekaaDoor
set_option linter.unusedVariables false
set_option linter.unusedSimpArgs false
set_option linter.unusedSectionVars false
open Go.RowKit
theorem wkK_of {K : Kn} {r : T} {s : St} (h : K r s) : wkK K r s := ⟨r, Weak.refl r, h⟩
theorem weak_nil {b : Bool} {a : ByteArray} : Weak (.ag [.bool b, .str a, .nil]) (.ag [.bool b, .str a, .sl false .sexp []]) :=
  Weak.ag (WeakL.cons (Weak.refl _) (WeakL.cons (Weak.refl _) (WeakL.cons (Weak.nil .sexp) WeakL.nil)))
theorem wkK_nil2 {K : Kn} {b : Bool} {a : ByteArray} {v : T} {s : St} (h : K (.tu [.ag [.bool b, .str a, .sl false .sexp []], v]) s) : wkK K (.tu [.ag [.bool b, .str a, .nil], v]) s :=
  ⟨_, Weak.tu (WeakL.cons weak_nil (WeakL.cons (Weak.refl _) WeakL.nil)), h⟩
theorem wkK_nil1 {K : Kn} {b : Bool} {a : ByteArray} {s : St} (h : K (.ag [.bool b, .str a, .sl false .sexp []]) s) : wkK K (.ag [.bool b, .str a, .nil]) s := ⟨_, weak_nil, h⟩
theorem F90_is {Z : prodL L90 → Prop} {s : ByteArray} {p k d : Nat} {K X : Kn} (hp : p ≤ s.size) (hs : s.size ≤ 2147483648) (hk : k ≤ 20000) (hd : d ≤ 12)
    (hZ : ∀ q k' : Nat, q ≤ s.size → k' ≤ 20000 → 1 ≤ d → Z (13 - ((d - 1 : Nat) : Int), s, (q : Int), (k' : Int), ())) (h : sexpF (13 - (d : Int), s, (p : Int), (k : Int), ()) K X) : F90 Z (13 - (d : Int), s, (p : Int), (k : Int), ()) (wkK K) X := by
  unfold sexpF at h
  dsimp only [Lf.ty, prodL] at h
  rw [Int.toNat_natCast, Int.toNat_natCast, show (13 - (13 - (d : Int))).toNat = d by omega] at h
  have hl := bl_len s
  have hpre : ∀ q : Nat, q ≤ s.size → ∀ n : Int, nextPre (s, (q : Int), n, ()) := fun q hq n => ⟨by dsimp only; omega, by dsimp only; omega, by rw [lim_eq]; exact hs⟩
  unfold F90
  dsimp only [Lf.ty, prodL]
  refine ⟨hpre p hp _, ?_⟩
  rw [Int.toNat_natCast]
  cases hdr : (bl s).drop p with
  | nil =>
    rw [hdr, show rdS d k [] = .err 11 by cases d <;> rfl] at h
    exact h _ _
  | cons c r =>
    obtain ⟨d1, d2, d3⟩ := drop_next hdr
    rw [hdr] at h
    show bif decide (20000 < IntKind.i64.wrap ((k : Int) + 1)) then _ else _
    have w1 : IntKind.i64.wrap ((k : Int) + 1) = ((k + 1 : Nat) : Int) := by rw [wrap64 (by omega) (by omega)]; omega
    have w2 : IntKind.i64.wrap ((p : Int) + 1) = ((p + 1 : Nat) : Int) := by rw [wrap64 (by omega) (by omega)]; omega
    rw [w1, bif_dec]
    cases d with
    | zero =>
      have hX : ∀ a b : Int, X (.ic 113 (.ag [.int .i64 12])) [some (.cells [.str s, .int .i64 a, .int .i64 b])] := h
      split
      · unfold F90_J4; exact hX _ _
      · unfold F90_J4; rw [decide_eq_true (by omega), cond_true]; exact hX _ _
    | succ d =>
      simp only [rdS] at h
      by_cases hk1 : 20000 < k + 1
      · rw [if_pos hk1] at h
        rw [if_pos (by omega)]
        unfold F90_J4
        exact h _ _
      rw [if_neg hk1] at h
      rw [if_neg (by omega), decide_eq_false (by omega)]
      unfold F90_J4
      rw [cond_false, bif_not, bif_dec]
      by_cases hc : c.toNat = 40
      · rw [if_pos (by omega), w2]
        rw [if_neg (by simpa using hc)] at h
        unfold F90_L17
        let Kok (a : List Sx × Nat × List UInt8) : Prop := K (.ag [.bool true, .str (⟨#[]⟩ : ByteArray), .sl false .sexp a.1]) [some (.cells [.str s, .int .i64 ((s.size : Int) - (a.2.2.length : Int)), .int .i64 (a.2.1 : Int)])]
        let Kerr (e : Int) : Prop := ∀ (p m : Int), X (.ic 113 (.ag [.int .i64 e])) [some (.cells [.str s, .int .i64 p, .int .i64 m])]
        have h0 : Res.go (rdL (rdS d) (r.length + 1) (k + 1) r []) Kok Kerr := by
          cases hx : rdL (rdS d) (r.length + 1) (k + 1) r [] with
          | ok a => rw [hx] at h; exact h
          | err e => rw [hx] at h; exact h
        refine LoopW.of (fun g => ∃ (q k' : Nat) (acc : List Sx) (m : Nat), g = (13 - ((d + 1 : Nat) : Int), s, (q : Int), (k' : Int), false, (⟨#[]⟩ : ByteArray), true, (⟨#[]⟩ : ByteArray), acc, ()) ∧ q ≤ s.size ∧ k' ≤ 20000 ∧ acc.length ≤ q ∧ ((bl s).drop q).length < m ∧ Res.go (rdL (rdS d) m k' ((bl s).drop q) acc) Kok Kerr)
          (fun g => s.size - g.2.2.1.toNat) ?_ ⟨p + 1, k + 1, [], r.length + 1, rfl, by omega, by omega, by simp, by rw [d1]; omega, by rw [d1]; exact h0⟩
        rintro g ⟨q, k', acc, m, rfl, i1, i2, i3, i4, i5⟩ W hW
        unfold F90_B17
        dsimp only
        refine ⟨hpre q i1 _, ?_⟩
        rw [Int.toNat_natCast]
        obtain ⟨m', rfl⟩ : ∃ m', m = m' + 1 := ⟨m - 1, by omega⟩
        cases hdq : (bl s).drop q with
        | nil =>
          rw [hdq] at i5
          exact i5 _ _
        | cons c2 r2 =>
          obtain ⟨e1, e2, e3⟩ := drop_next hdq
          rw [hdq] at i5 i4
          show bif !decide ((c2.toNat : Int) = 41) then _ else _
          rw [bif_not, bif_dec]
          by_cases h41 : c2.toNat = 41
          · rw [if_pos (by omega)]
            simp only [rdL, if_pos h41] at i5
            rw [wrap64 (n := (q : Int) + 1) (by omega) (by omega), show (q : Int) + 1 = (s.size : Int) - (r2.length : Int) by omega]
            exact wkK_of i5
          · rw [if_neg (by omega)]
            simp only [rdL, if_neg h41] at i5
            have w3 : IntKind.i64.wrap (13 - ((d + 1 : Nat) : Int) + 1) = 13 - (d : Int) := by rw [wrap64 (by omega) (by omega)]; omega
            rw [w3]
            have hz := hZ q k' i1 i2 (by omega)
            rw [show d + 1 - 1 = d from rfl] at hz
            refine ⟨hz, ?_⟩
            rw [Int.toNat_natCast, show (13 - (13 - (d : Int))).toNat = d by omega]
            obtain ⟨s1, s2⟩ := rdS_sound d k' (c2 :: r2) i2
            cases hx : rdS d k' (c2 :: r2) with
            | err e =>
              rw [hx] at i5
              exact fun a b _ => i5 a b
            | ok a =>
              obtain ⟨x, k2, l2⟩ := a
              rw [hx] at i5
              obtain ⟨⟨pp, p1, p2, p3⟩, q1, q2⟩ := s1 x k2 l2 hx
              have hppl : 0 < pp.length := List.length_pos_iff.2 p1
              obtain ⟨z1, z2, z3⟩ := drop_rest (hdq.trans p2) i1
              show Room _ _ _
              refine ⟨by simp only [List.length_cons, List.length_nil]; omega, ?_⟩
              rw [Sx.eta]
              simp only
              rw [z1]
              refine hW _ ⟨q + pp.length, k2, acc ++ [x], m', rfl, z3, q2, by simp; omega, ?_, by rw [z2]; exact i5⟩ ?_
              · rw [z2]
                have := congrArg List.length p2
                simp only [List.length_append, List.length_cons] at this i4; omega
              · dsimp only
                rw [Int.toNat_natCast, Int.toNat_natCast]; omega
      · rw [if_neg (by omega)]
        rw [if_pos hc] at h
        refine ⟨hpre p hp _, ?_⟩
        rw [Int.toNat_natCast, hdr]
        unfold atomR atomG at h
        cases ha : numR true 0 (c :: r) with
        | err e =>
          rw [ha] at h
          exact fun a => h _ _
        | ok a =>
          obtain ⟨n, l2⟩ := a
          rw [ha] at h
          obtain ⟨⟨pp, p1, p2⟩, hn⟩ := numR_ok _ _ _ _ _ ha
          obtain ⟨z1, z2, z3⟩ := drop_rest (hdr.trans p2) hp
          have hz2 := congrArg List.length z2
          rw [List.length_drop] at hz2
          have hn := hn (by omega)
          simp only at h
          show bif decide (IntKind.i64.wrap ((s.size : Int) - ((s.size : Int) - (l2.length : Int))) < (n : Int)) then _ else _
          rw [z1, bif_dec, wrap64 (n := (s.size : Int) - ((p + pp.length : Nat) : Int)) (by omega) (by omega), wrap64 (n := ((p + pp.length : Nat) : Int) + (n : Int)) (by omega) (by omega), wrap64 (by omega) (by omega)]
          by_cases hlt : l2.length < n
          · rw [if_pos hlt] at h
            rw [if_pos (by omega)]
            exact h _ _
          · rw [if_neg hlt] at h
            rw [if_neg (by omega)]
            refine ⟨by omega, by omega, by omega, wkK_nil1 ?_⟩
            have e1 : s.extract (((p + pp.length : Nat) : Int) + (n : Int) - (n : Int)).toNat (((p + pp.length : Nat) : Int) + (n : Int)).toNat = ⟨(l2.take n).toArray⟩ := by
              apply bl_inj
              rw [show bl ⟨(l2.take n).toArray⟩ = l2.take n from bl_mk _, bl_extract, show (((p + pp.length : Nat) : Int) + (n : Int) - (n : Int)).toNat = p + pp.length by omega, show (((p + pp.length : Nat) : Int) + (n : Int)).toNat = p + pp.length + n by omega, List.drop_take, z2, show p + pp.length + n - (p + pp.length) = n by omega]
            have e2 : ((p + pp.length : Nat) : Int) + (n : Int) = (s.size : Int) - ((l2.drop n).length : Int) := by rw [List.length_drop]; omega
            rw [e1, e2]
            exact h
def rw90 : Raw := rwz90 sexpPre
theorem rw90_all : ∀ n : Nat, (rwz90 fun g => sexpPre g ∧ 13 - g.1 < (n : Int)).Ok Tryd.prog 90
  | 0 => by
    have key : ∀ (lv : Int) (s : ByteArray) (p k : Int), sexpPre (lv, s, p, k, ()) → 13 - lv < 0 → False := fun lv s p k h h2 => by
      obtain ⟨⟨_, _⟩, _⟩ : (1 ≤ lv ∧ lv ≤ 13) ∧ (0 ≤ p ∧ p ≤ (s.size : Int) ∧ s.size ≤ 2 * lim) ∧ (0 ≤ k ∧ k ≤ 20000) := h
      omega
    rintro ⟨lv, s, p, k, ⟨⟩⟩ K X ⟨⟨h, h2⟩, _⟩
    exact (key lv s p k h h2).elim
  | n + 1 => by
    have key : ∀ (lv : Int) (s : ByteArray) (p k : Int) (K X : Kn), sexpPre (lv, s, p, k, ()) → 13 - lv < ((n + 1 : Nat) : Int) → sexpF (lv, s, p, k, ()) K X → FCalls Tryd.prog 90 (argsT S90 L90 (lv, s, p, k, ())) (storeT S90 O90 L90 (lv, s, p, k, ())) K X := fun lv s p k K X h m hF => by
      obtain ⟨⟨e1, e2⟩, ⟨a1, a2, a3⟩, b1, b2⟩ : (1 ≤ lv ∧ lv ≤ 13) ∧ (0 ≤ p ∧ p ≤ (s.size : Int) ∧ s.size ≤ 2 * lim) ∧ (0 ≤ k ∧ k ≤ 20000) := h
      obtain ⟨p, rfl⟩ := Int.eq_ofNat_of_zero_le a1
      obtain ⟨k, rfl⟩ := Int.eq_ofNat_of_zero_le b1
      obtain ⟨d, rfl⟩ : ∃ d : Nat, lv = 13 - (d : Int) := ⟨(13 - lv).toNat, by omega⟩
      rw [lim_eq] at a3
      have hz : ∀ q k' : Nat, q ≤ s.size → k' ≤ 20000 → 1 ≤ d → ((1 ≤ 13 - ((d - 1 : Nat) : Int) ∧ 13 - ((d - 1 : Nat) : Int) ≤ 13) ∧ (0 ≤ (q : Int) ∧ (q : Int) ≤ (s.size : Int) ∧ s.size ≤ 2 * lim) ∧ (0 ≤ (k' : Int) ∧ (k' : Int) ≤ 20000)) ∧ 13 - (13 - ((d - 1 : Nat) : Int)) < (n : Int) := fun q k' q1 q2 q3 => by rw [lim_eq]; omega
      exact FCalls.weak (F90_ok _ (rw90_all n) _ _ X (F90_is (X := X) (by omega) a3 (by omega) (by omega) hz hF))
    rintro ⟨lv, s, p, k, ⟨⟩⟩ K X ⟨⟨h, m⟩, hF⟩
    exact key lv s p k K X h m hF
theorem rw90_ok : rw90.Ok Tryd.prog 90 := fun g K X h => rw90_all ((13 - g.1).toNat + 1) g K X ⟨⟨h.1, by
  have key : ∀ (lv : Int) (s : ByteArray) (p k : Int), sexpPre (lv, s, p, k, ()) → 13 - lv < (((13 - lv).toNat + 1 : Nat) : Int) := fun lv s p k h => by
    obtain ⟨⟨_, _⟩, _⟩ : (1 ≤ lv ∧ lv ≤ 13) ∧ (0 ≤ p ∧ p ≤ (s.size : Int) ∧ s.size ≤ 2 * lim) ∧ (0 ≤ k ∧ k ≤ 20000) := h
    omega
  obtain ⟨lv, s, p, k, ⟨⟩⟩ := g
  exact key lv s p k h.1⟩, h.2⟩
end Go.Proofs.YtoclmkbjgmgekaaDoor
