import Derived.Test.YtoclmkbjgmgekaaGreatDoorRows
import Derived.DataReads
import Derived.JoinedCond
import Derived.OpenShut
import Derived.ReadAgain
import Derived.RowKit3
import Derived.RowKit
import Derived.Lib.ItoaNum
import Derived.Lib.AtoiAll
import Derived.Test.YtoclmkbjgmgekaaGreatDoorV3
set_option linter.unusedVariables false
set_option linter.unusedSimpArgs false
set_option linter.unusedSectionVars false
namespace Go.Proofs.YtoclmkbjgmgekaaGreatDoor
open Go.RowKit
variable {P : Program}
def leafEq : List Nat -> List Value -> List Value -> Option Bool
 | [], [], [] => some true
 | 0 :: ks, .int k a :: r, .int k' b :: q => if k = k' then (leafEq ks r q).map (decide (a = b) && ·) else none
 | 1 :: ks, .bool a :: r, .bool b :: q => (leafEq ks r q).map (decide (a = b) && ·)
 | 2 :: ks, .string a :: r, .string b :: q => (leafEq ks r q).map (decide (a = b) && ·)
 | _, _, _ => none
theorem bytes_beq (x y : ByteArray) : (x == y) = decide (x = y) := by
 obtain ⟨x⟩ := x
 obtain ⟨y⟩ := y
 rw [Bool.eq_iff_iff, decide_eq_true_iff, ByteArray.mk.injEq]
 exact (beq_iff_eq (α := Array UInt8) (a := x) (b := y))
section
variable {P : Program} {t : TypeId}
theorem leafEq_of {g : G P} : ∀ {ks : List Nat} {xs ys : List T} {vs us : List Value} {b : Bool}, eqCells ks xs ys = some b -> xs.length = vs.length -> ys.length = us.length -> (∀ (i : Nat) (c : T) (x : Value), xs[i]? = some c -> vs[i]? = some x -> R g c x) -> (∀ (i : Nat) (c : T) (x : Value), ys[i]? = some c -> us[i]? = some x -> R g c x) -> leafEq ks vs us = some b := by
 intro ks
 induction ks with
 | nil =>
  intro xs ys vs us b h h1 h2 _ _
  cases xs <;> cases ys <;> simp [eqCells] at h
  cases vs <;> cases us <;> simp at h1 h2
  subst h
  rfl
 | cons k ks ih =>
  intro xs ys vs us b h h1 h2 h3 h4
  cases xs with
  | nil => unfold eqCells at h; (repeat' split at h) <;> simp_all
  | cons x xs =>
   cases ys with
   | nil => unfold eqCells at h; (repeat' split at h) <;> simp_all
   | cons y ys =>
    cases vs with
    | nil => simp at h1
    | cons v vs =>
     cases us with
     | nil => simp at h2
     | cons u us =>
      have r1 := h3 0 x v rfl rfl
      have r2 := h4 0 y u rfl rfl
      have hrec := fun b h => ih (xs := xs) (ys := ys) (vs := vs) (us := us) (b := b) h (by simpa using h1) (by simpa using h2) (fun i c x hc hx => h3 (i + 1) c x (by simpa using hc) (by simpa using hx)) (fun i c x hc hx => h4 (i + 1) c x (by simpa using hc) (by simpa using hx))
      unfold eqCells at h
      split at h
      . rename_i e _ _; cases e
      . rename_i ks' k1 a r k2 b' q e1 e2 e3
        cases e1; cases e2; cases e3
        cases r1; cases r2
        split at h
        . rename_i hk
          obtain ⟨c, hc, hb⟩ := Option.map_eq_some_iff.1 h
          simp only [leafEq, if_pos (of_decide_eq_true hk), hrec c hc, Option.map_some, hb]
        . cases h
      . rename_i ks' a r b' q e1 e2 e3
        cases e1; cases e2; cases e3
        cases r1; cases r2
        obtain ⟨c, hc, hb⟩ := Option.map_eq_some_iff.1 h
        simp only [leafEq, hrec c hc, Option.map_some, hb]
      . rename_i ks' a r b' q e1 e2 e3
        cases e1; cases e2; cases e3
        cases r1; cases r2
        obtain ⟨c, hc, hb⟩ := Option.map_eq_some_iff.1 h
        simp only [leafEq, hrec c hc, Option.map_some, hb]
      . cases h
theorem leaf0 {ks : List Nat} {vs us : List Value} {b : Bool} (h : leafEq (0 :: ks) vs us = some b) : ∃ k x r y q c, vs = .int k x :: r /\ us = .int k y :: q /\ leafEq ks r q = some c /\ b = ((x == y) && c) := by
 cases vs with
 | nil => simp [leafEq] at h
 | cons v r =>
  cases us with
  | nil => cases v <;> simp [leafEq] at h
  | cons u q =>
   cases v <;> cases u <;> first | (simp [leafEq] at h; done) | skip
   simp only [leafEq] at h
   split at h
   . rename_i hk
     subst hk
     obtain ⟨c, hc, hb⟩ := Option.map_eq_some_iff.1 h
     exact ⟨_, _, _, _, _, c, rfl, rfl, hc, hb.symm⟩
   . cases h
theorem leafN {vs us : List Value} {b : Bool} (h : leafEq [] vs us = some b) : vs = [] /\ us = [] /\ b = true := by
 cases vs <;> cases us <;> simp [leafEq] at h
 exact ⟨rfl, rfl, h⟩
theorem eqV_arr {t e : TypeId} {n d : Nat} {i : TypeInfo} {xs ys : List Value} (hu : P.underlying t = some (.array n e)) (hi : P.info? e = some i) : eqV P (d + 1) t xs ys = eqIs (eqV P d e) i.size xs ys (List.range' 0 n) := by
 simp only [eqV, hu, hi]
theorem eqIs_leaf {e : TypeId} {q : IntKind} {d : Nat} (he : P.underlying e = some (.int q)) : ∀ (n j : Nat) (pa pb vs us : List Value) (b : Bool), pa.length = j -> pb.length = j -> leafEq (List.replicate n 0) vs us = some b -> eqIs (eqV P (d + 1) e) 1 (pa ++ vs) (pb ++ us) (List.range' j n) = some b
 | 0, j, pa, pb, vs, us, b, _, _, h => by
  obtain ⟨_, _, rfl⟩ := leafN h
  rfl
 | n + 1, j, pa, pb, vs, us, b, ha, hb, h => by
  rw [List.replicate_succ] at h
  obtain ⟨k, x, r, y, s, c, rfl, rfl, h1, rfl⟩ := leaf0 h
  rw [List.range'_succ, eqIs]
  have e1 : ((pa ++ Value.int k x :: r).drop (j * 1)).take 1 = [.int k x] := by rw [Nat.mul_one, <- ha, List.drop_left]; rfl
  have e2 : ((pb ++ Value.int k y :: s).drop (j * 1)).take 1 = [.int k y] := by rw [Nat.mul_one, <- hb, List.drop_left]; rfl
  have e3 := eqIs_leaf (d := d) he n (j + 1) (pa ++ [.int k x]) (pb ++ [.int k y]) r s c (by simp [ha]) (by simp [hb]) h1
  rw [List.append_assoc, List.append_assoc] at e3
  simp only [List.cons_append, List.nil_append] at e3
  rw [e1, e2, e3]
  simp [eqV, he]
theorem TIok.one {d : TypeDesc} {i : TypeInfo} {ti : TI} {z : T} (hu : P.underlying t = some d) (hi : P.info? t = some i) (ha : ti.agg = false) (ha' : aggDesc d = false) (hs : srtOk P d ti.srt) (h1 : i.size = ti.size) (h2 : i.bytes = ti.bytes) (hz : ti.zero = some [z])
  {x : Value} (h3 : i.zero = some x) (h4 : cellsOf (tval x) = some ([z].map unfp)) (hW : cellW [z] t 1 = true) (h5 : ti.size = 1) (h6 : ti.agg = false -> x.oneCell' = true) (hel : ∀ e, ti.el = some e -> sz e = ti.size /\ 0 < ti.bytes) (helt : ∀ e, ti.el = some e -> elTy e t = true) (he : ti.eqs = none) : TIok P t ti :=
 ⟨⟨d, hu, by rw [ha, ha'], hs⟩, ⟨i, hi, h1, h2, fun z' hz' => by rw [hz] at hz'; injection hz' with hz'; subst hz'; exact ⟨⟨x, h3, h4, hW⟩, by rw [h5]; rfl⟩⟩, hel, helt, fun ha _ i' x' e1 e2 => (by rw [hi] at e1; injection e1 with e1; subst e1; rw [h3] at e2; injection e2 with e2; subst e2; exact h6 ha), fun ks hks => by rw [he] at hks; cases hks⟩
theorem TIok.none {d : TypeDesc} {i : TypeInfo} {ti : TI} (hu : P.underlying t = some d) (hi : P.info? t = some i) (ha : aggDesc d = ti.agg) (hs : srtOk P d ti.srt) (h1 : i.size = ti.size) (h2 : i.bytes = ti.bytes) (hz : ti.zero = Option.none)
  (hel : ∀ e, ti.el = some e -> sz e = ti.size /\ 0 < ti.bytes) (helt : ∀ e, ti.el = some e -> elTy e t = true) (he : ti.eqs = Option.none) : TIok P t ti :=
 ⟨⟨d, hu, ha, hs⟩, ⟨i, hi, h1, h2, fun z' hz' => by rw [hz] at hz'; cases hz'⟩, hel, helt, fun _ hz' => (by rw [hz] at hz'; cases hz'), fun ks hks => by rw [he] at hks; cases hks⟩
theorem TIok.agg {d : TypeDesc} {i : TypeInfo} {ti : TI} {z : List T} (hu : P.underlying t = some d) (hi : P.info? t = some i) (ha : aggDesc d = ti.agg) (hs : srtOk P d ti.srt) (h1 : i.size = ti.size) (h2 : i.bytes = ti.bytes) (hz : ti.zero = some z)
  {x : Value} (h3 : i.zero = some x) (h4 : cellsOf (tval x) = some (z.map unfp)) (hW : cellW z t z.length = true) (h5 : z.length = ti.size) (h6 : ti.agg = false -> x.oneCell' = true) (hel : ∀ e, ti.el = some e -> sz e = ti.size /\ 0 < ti.bytes) (helt : ∀ e, ti.el = some e -> elTy e t = true)
  (he : ∀ ks, ti.eqs = some ks -> P.eqGuardType P.depth t = false /\ aggDesc d = true /\ ∀ vs us b, leafEq ks vs us = some b -> eqV P 4 t vs us = some b) : TIok P t ti := by
 refine ⟨⟨d, hu, ha, hs⟩, ⟨i, hi, h1, h2, fun z' hz' => by rw [hz] at hz'; injection hz' with hz'; subst hz'; exact ⟨⟨x, h3, h4, hW⟩, h5⟩⟩, hel, helt, fun ha _ i' x' e1 e2 => (by rw [hi] at e1; injection e1 with e1; subst e1; rw [h3] at e2; injection e2 with e2; subst e2; exact h6 ha), fun ks hks xs ys vs us g b hl hq hx hy => ?_⟩
 obtain ⟨k1, k2, k3⟩ := he ks hks
 refine ⟨?_, k1⟩
 cases hx with
 | ag _ _ a1 a2 _ =>
  cases hy with
  | ag _ _ b1 b2 _ =>
   have hv := k3 vs.toList us.toList b (leafEq_of hq (by simpa using a1) (by simpa using b1) (fun i c x hc hx => a2 i c x hc (by simpa using hx)) fun i c x hc hx => b2 i c x hc (by simpa using hx))
   exact eqV_sound 4 t _ _ b 10000 hv (by omega) _ _ (by unfold mkV; simp [hu, k2]) (by unfold mkV; simp [hu, k2])
end
end Go.Proofs.YtoclmkbjgmgekaaGreatDoor
namespace Go.Proofs.YtoclmkbjgmgekaaGreatDoor
open Go.RowKit
variable {P : Program}
abbrev codeOf (fn : Func) : Code :=
 match fn.body with
 | some c => c
 | none => .skip
def argsT (shs : List Sh) (ls : List Lf) (g : prodL ls) : List T := (bldL shs (envT ls g)).1
def settle0 (K : Kn) : Kn := fun r s => K (rnV s true (pos0 []) r) []
structure Sp where
 shs : List Sh
 ls : List Lf
 pre : prodL ls -> Prop
 res : prodL ls -> T
 ob : prodL ls -> Option Ob
def obL : Option Ob -> St
 | some o => [some o]
 | none => []
def Sp.run (c : Sp) (vs : List T) (s : St) (K : Kn) : Prop :=
 match collectL c.shs vs with
 | some l => typed c.ls l fun g => c.pre g /\ K (rnV (obL (c.ob g)) false (bkPos s [] s.length (fxOf 0 (obL (c.ob g)))) (c.res g)) (merge s [] (fxOf 0 (obL (c.ob g))) (obL (c.ob g)))
 | none => False
def Sp.lend (c : Sp) (vs : List T) (s : St) (K : Kn) : Prop :=
 match collectL c.shs (rnL s true (pos0 []) vs) with
 | some l => typed c.ls l fun g => c.pre g /\ K (c.res g) s
 | none => False
structure Sp.Ok (P : Program) (f : FuncId) (b : Bool) (c : Sp) : Prop where
 calls : ∀ (g : prodL c.ls) (K X : Kn), c.pre g -> K (c.res g) (obL (c.ob g)) -> FCalls P f (argsT c.shs c.ls g) [] K X
 args : ∀ (g : prodL c.ls) (s : St) (pos : Nat -> Option (Nat × Nat)), rnL s false pos (argsT c.shs c.ls g) = argsT c.shs c.ls g
 objs : ∀ (g : prodL c.ls), objsL (argsT c.shs c.ls g) = []
 flat : b = true -> ∀ (g : prodL c.ls), flatT (c.res g) = true /\ c.ob g = none
structure Raw where
 shs : List Sh
 obs : List ObSh
 ls : List Lf
 c0 : Nat
 F : prodL ls -> Kn -> Kn -> Prop
def storeT (shs : List Sh) (obs : List ObSh) (ls : List Lf) (g : prodL ls) : St := (bldS obs (bldL shs (envT ls g)).2).1
def Raw.C (r : Raw) (vs : List T) (s : St) (K X : Kn) : Prop :=
 match collectL r.shs vs, collectS r.obs s with
 | some a, some b => typed r.ls (a ++ b) fun g => r.F g K X
 | _, _ => False
abbrev Raw.Ok (P : Program) (f : FuncId) (r : Raw) : Prop := ∀ (g : prodL r.ls) (K X : Kn), r.F g K X -> FCalls P f (argsT r.shs r.ls g) (storeT r.shs r.obs r.ls g) K X r.c0
def settleD (m c0 : Nat) (K : Kn) : Kn := fun r s =>
 match nodupB (reach s 64 (upto m (objsV r)) []), decide ((reach s 64 (upto m (objsV r)) []).take m = upto m []), Nat.ble c0 m, fix0 c0 s with
 | true, true, true, true => K (rnV s true (pos0 (reach s 64 (upto m (objsV r)) [])) r) (rnS s true (reach s 64 (upto m (objsV r)) []))
 | _, _, _, _ => False
def settleG (m c0 : Nat) (K : Kn) : Kn := fun r s =>
 match nodupB (reach s 64 (upto m []) []), decide ((reach s 64 (upto m []) []).take m = upto m []), Nat.ble c0 m, fix0 c0 s with
 | true, true, true, true => K (rnV s true (pos0 (reach s 64 (upto m []) [])) r) (rnS s true (reach s 64 (upto m []) []))
 | _, _, _, _ => False
def isRaw : List (FuncId × Raw) -> FuncId -> Bool
 | [], _ => false
 | (f', _) :: r, f => match decide (f = f') with
  | true => true
  | false => isRaw r f
def gamOf : List (FuncId × Bool × Sp) -> Gam
 | [], _, _, _, _, _ => False
 | (f', b, c) :: r, f, vs, s, K, X => match decide (f = f') with
  | true => match b with
   | true => c.lend vs s K
   | false => c.run vs s K
  | false => gamOf r f vs s K X
section
variable {P : Program} {f : FuncId} {c : Sp} {vs : List T} {s : St} {K X : Kn} {b : Bool}
theorem FCalls.noX {s : St} {c0 : Nat} (h : FCalls P f vs s K (fun _ _ => False) c0) : FCalls P f vs s K X c0 := fun g w hg => (h g w hg).mono (by
 rintro e w' ⟨g', st', p1, p2, p3⟩
 refine ⟨g', st', p1, p2, ?_⟩
 cases e with
 | returned x => exact p3
 | panicked ch => obtain ⟨v, u, _, h2, _⟩ := p3; exact h2.elim
 | outgrown => exact p3)
theorem FCalls.settle0 (h : FCalls P f vs [] (settle0 K) X) : FCalls P f vs [] K X := by
 refine fun g w hg => (h g w hg).mono fun e w' ⟨g', st', h1, h2, h3⟩ => ?_
 cases e with
 | returned x =>
  obtain ⟨r, r1, r2⟩ := h3
  obtain ⟨g2, k1, k2, k3, _⟩ := ren_ok h1 (keep := []) List.nodup_nil true
  exact ⟨g2, _, k1, h2.trans (k2 _ (fun k hk => absurd hk (Nat.not_lt_zero _)) fun k hk => absurd hk (Nat.not_lt_zero _)), _, r1, k3 _ _ r2⟩
 | panicked ch => exact ⟨g', st', h1, h2, h3⟩
 | outgrown => exact h3.elim
theorem FCalls.settleD {s : St} {c0 : Nat} (h : FCalls P f vs s (settleD s.length c0 K) X c0) : FCalls P f vs s K X c0 := by
 refine fun g w hg => (h g w hg).mono fun e w' ⟨g', st', h1, h2, h3⟩ => ?_
 cases e with
 | returned x =>
  obtain ⟨r, r1, r2⟩ := h3
  unfold Go.Proofs.YtoclmkbjgmgekaaGreatDoor.settleD at r1
  generalize reach st' 64 (upto s.length (objsV r)) [] = ks at r1
  split at r1
  . rename_i hn ht hle hfx
    have ht := of_decide_eq_true ht
    have hle := Nat.le_of_ble_eq_true hle
    have hat : ∀ k, k < s.length -> ks[k]? = some k := fun k hk => by
     have : (ks.take s.length)[k]? = some k := by rw [ht]; exact upto_get _ _ k hk
     rwa [List.getElem?_take_of_lt hk] at this
    obtain ⟨g2, k1, k2, k3, _⟩ := ren_ok h1 (keep := ks) (nodupB_ok hn) true
    exact ⟨g2, _, k1, h2.trans (k2 _ hat fun k hk => ⟨hat k (Nat.lt_of_lt_of_le hk hle), fix0_ok hfx k hk⟩), _, r1, k3 _ _ r2⟩
  . exact r1.elim
 | panicked ch => exact ⟨g', st', h1, h2, h3⟩
 | outgrown => exact h3.elim
theorem FCalls.settleG {s : St} {c0 : Nat} (h : FCalls P f vs s (Go.Proofs.YtoclmkbjgmgekaaGreatDoor.settleG s.length c0 K) X c0) : FCalls P f vs s K X c0 := by
 refine fun g w hg => (h g w hg).mono fun e w' ⟨g', st', h1, h2, h3⟩ => ?_
 cases e with
 | returned x =>
  obtain ⟨r, r1, r2⟩ := h3
  unfold Go.Proofs.YtoclmkbjgmgekaaGreatDoor.settleG at r1
  generalize reach st' 64 (upto s.length []) [] = ks at r1
  split at r1
  . rename_i hn ht hle hfx
    have ht := of_decide_eq_true ht
    have hle := Nat.le_of_ble_eq_true hle
    have hat : ∀ k, k < s.length -> ks[k]? = some k := fun k hk => by
     have : (ks.take s.length)[k]? = some k := by rw [ht]; exact upto_get _ _ k hk
     rwa [List.getElem?_take_of_lt hk] at this
    obtain ⟨g2, k1, k2, k3, _⟩ := ren_ok h1 (keep := ks) (nodupB_ok hn) true
    exact ⟨g2, _, k1, h2.trans (k2 _ hat fun k hk => ⟨hat k (Nat.lt_of_lt_of_le hk hle), fix0_ok hfx k hk⟩), _, r1, k3 _ _ r2⟩
  . exact r1.elim
 | panicked ch => exact ⟨g', st', h1, h2, h3⟩
 | outgrown => exact h3.elim
theorem FCalls.settleX {s : St} {c0 : Nat} (h : FCalls P f vs s K (Go.Proofs.YtoclmkbjgmgekaaGreatDoor.settleD s.length c0 X) c0) : FCalls P f vs s K X c0 := by
 refine fun g w hg => (h g w hg).mono fun e w' ⟨g', st', h1, h2, h3⟩ => ?_
 cases e with
 | returned x => exact ⟨g', st', h1, h2, h3⟩
 | panicked ch =>
  obtain ⟨v, r, rfl, r1, r2⟩ := h3
  unfold Go.Proofs.YtoclmkbjgmgekaaGreatDoor.settleD at r1
  generalize reach st' 64 (upto s.length (objsV r)) [] = ks at r1
  split at r1
  . rename_i hn ht hle hfx
    have ht := of_decide_eq_true ht
    have hle := Nat.le_of_ble_eq_true hle
    have hat : ∀ k, k < s.length -> ks[k]? = some k := fun k hk => by
     have : (ks.take s.length)[k]? = some k := by rw [ht]; exact upto_get _ _ k hk
     rwa [List.getElem?_take_of_lt hk] at this
    obtain ⟨g2, k1, k2, k3, _⟩ := ren_ok h1 (keep := ks) (nodupB_ok hn) true
    exact ⟨g2, _, k1, h2.trans (k2 _ hat fun k hk => ⟨hat k (Nat.lt_of_lt_of_le hk hle), fix0_ok hfx k hk⟩), v, _, rfl, r1, k3 _ _ r2⟩
  . exact r1.elim
 | outgrown => exact h3.elim
theorem RL.weak {g : G P} {us : List T} {args : Array Value} (h : RL g vs args) (hw : WeakL vs us) : RL g us args :=
 ⟨by rw [hw.1]; exact h.len, fun i u x hu hx => by
  obtain ⟨v, v1, v2⟩ := hw.2 i u hu
  exact v2 _ g x (h.val i v x v1 hx)⟩
theorem Atc.weak {g : G P} {us : List T} {w : World} {Z : Ending -> World -> Prop} (h : Atc P f g us w Z) (hw : WeakL vs us) : Atc P f g vs w Z :=
 h.re hw.1 (fun i u1 hu => by obtain ⟨v, v1, v2⟩ := hw.2 i u1 hu; exact ⟨v, v1, v2 _ g⟩) fun _ _ h => h
theorem DCalls.weak {us : List T} (h : DCalls P f us s K X) (hw : WeakL vs us) : DCalls P f vs s K X :=
 fun g w hg => (h g w hg).weak hw
theorem typed_some {ls : List Lf} {l : List T} {W : prodL ls -> Prop} (h : typed ls l W) : ∃ g, W g /\ All2 Wkk l (envT ls g) /\ ∀ W' : prodL ls -> Prop, W' g -> typed ls l W' := by
 induction ls generalizing l with
 | nil =>
  cases l with
  | nil => exact ⟨(), h, .nil, fun W' h => h⟩
  | cons => exact h.elim
 | cons a r ih =>
  cases l with
  | nil => exact h.elim
  | cons v vs =>
   simp only [typed] at h
   split at h
   . rename_i x hx
     obtain ⟨g, g1, g2, g3⟩ := ih h
     exact ⟨(x, g), g1, .cons (Lf.get_ok hx) g2, fun W' h' => by simp only [typed, hx]; exact g3 _ h'⟩
   . exact h.elim
theorem coll_some {shs : List Sh} {ls : List Lf} {vs : List T} {W : prodL ls -> Prop} (h : match collectL shs vs with | some l => typed ls l W | none => False) :
  ∃ g, W g /\ WeakL vs (argsT shs ls g) /\ ∀ W' : prodL ls -> Prop, W' g -> (match collectL shs vs with | some l => typed ls l W' | none => False) := by
 cases hl : collectL shs vs with
 | none => rw [hl] at h; exact h.elim
 | some l =>
  rw [hl] at h
  obtain ⟨g, g1, g3, g4⟩ := typed_some h
  have := (bldL_ok [] hl g3).2
  rw [List.append_nil] at this
  exact ⟨g, g1, this, g4⟩
theorem Sp.Ok.run_ok (hc : c.Ok P f b) (h : c.run vs s K) : DCalls P f vs s K X := by
 obtain ⟨g, ⟨g1, g2⟩, g3, _⟩ := coll_some h
 refine DCalls.weak ?_ g3
 refine frameD_sound (c0 := 0) (C := fun vs' s' K' X' => vs' = argsT c.shs c.ls g /\ s' = [] /\ K' (c.res g) (obL (c.ob g))) (fun vs' s' K' X' ⟨e1, e2, e3⟩ => by subst e1; subst e2; exact hc.calls g K' X' g1 e3) ?_
 have hk : reach s 64 (objsL (argsT c.shs c.ls g)) [] = [] := by rw [hc.objs]; rfl
 unfold frameD
 simp only [hk]
 exact ⟨hc.args g s _, rfl, g2⟩
theorem Sp.Ok.lend_ok (hc : c.Ok P f true) (h : c.lend vs s K) : DCalls P f vs s K X := by
 unfold Sp.lend at h
 obtain ⟨g, ⟨g1, g2⟩, g3, _⟩ := coll_some h
 obtain ⟨f1, f2⟩ := hc.flat rfl g
 have hD : lendD (fun vs' s' K' X' => WeakL vs' (argsT c.shs c.ls g) /\ s' = [] /\ K' (c.res g) []) vs s K := by
  unfold lendD
  refine ⟨g3, rfl, ?_⟩
  show (match flatT (c.res g) with | true => K (c.res g) s | false => False)
  rw [f1]
  exact g2
 exact lendD_sound (fun vs' s' K' X' ⟨e1, e2, e3⟩ => by
  subst e2
  have := hc.calls g K' X' g1 (by rw [f2]; exact e3)
  exact fun g w hg => (this g w hg).weak e1) hD
theorem merge_ob (fx : Nat -> Bool) (o : Option Ob) : merge s [] fx (obL o) = s ∨ ∃ o', merge s [] fx (obL o) = s ++ [some o'] := by
 cases o with
 | none => left; simp [obL, merge, putOld, newOnes]
 | some o =>
  right
  have : merge s [] fx (obL (some o)) = s ++ [bkOb s [] s.length fx [some o] 0 (some o)] := by simp [obL, merge, putOld, newOnes]
  rw [this]
  unfold bkOb
  cases o with
  | cells cs => exact ⟨_, rfl⟩
  | arr ver e l => exact ⟨_, rfl⟩
theorem Det.ob {w : Bool} {F : (T -> St -> Prop) -> Prop} {v : T} {fx : Nat -> Bool} {o : Option Ob} (h : K v (merge s [] fx (obL o))) (hF : ∀ K' : Kn, K' v (merge s [] fx (obL o)) -> F K') : Det w s F K := by
 refine ⟨v, _, h, hF, ?_⟩
 rcases merge_ob (s := s) fx o with e | ⟨o', e⟩
 . exact .inl e
 . exact .inr (.inl ⟨o', e⟩)
theorem gamOf_ok : ∀ {l : List (FuncId × Bool × Sp)}, (∀ p ∈ l, p.2.2.Ok P p.1 p.2.1) -> GamOk P (gamOf l)
 | [], _, f, vs, s, K, X, h => h.elim
 | (f', b, c) :: r, hl, f, vs, s, K, X, h => by
  simp only [gamOf] at h
  split at h
  . rename_i hd
    obtain rfl := of_decide_eq_true hd
    have hc := hl (f, b, c) (by simp)
    cases b with
    | true => exact hc.lend_ok h
    | false => exact hc.run_ok h
  . exact gamOf_ok (fun p hp => hl p (by simp [hp])) f vs s K X h
theorem Raw.Ok.C_ok {r : Raw} (hr : r.Ok P f) (h : r.C vs s K X) : FCalls P f vs s K X r.c0 := by
 unfold Raw.C at h
 split at h
 case h_2 => exact h.elim
 rename_i a b ha hb
 obtain ⟨g, g1, g2, _⟩ := typed_some h
 obtain ⟨u1, u2, he, k1, k2⟩ := g2.append_inv
 obtain ⟨h1, h2⟩ := bldL_ok u2 ha k1
 obtain ⟨_, h3, h4⟩ := bldS_ok [] hb k2
 rw [List.append_nil] at h3 h4
 have hF := hr g K X g1
 unfold argsT storeT at hF
 rw [he, h1] at hF
 intro g0 w hg
 obtain ⟨q1, q2⟩ := good_weak hg h3 h4
 refine Atc.weak ((hF g0 w q1).mono ?_) h2
 rintro e w' ⟨g', st', p1, p2, p3⟩
 rw [h3] at p2
 exact ⟨g', st', p1, (q2 _).trans p2, p3⟩
def rawFits (r : Raw) (vs : List T) (s : St) : Bool :=
 match collectL r.shs (rnL s false (pos0 (reach s 64 (objsL vs) [])) vs), collectS r.obs (rnS s false (reach s 64 (objsL vs) [])) with
 | some _, some _ => true
 | _, _ => false
def gamX (rs : List (FuncId × Raw)) (l : List (FuncId × Bool × Sp)) : Gam := fun f vs s K X =>
 match rs with
 | [] => gamOf l f vs s K X
 | (f', r) :: rs => match decide (f = f') && rawFits r vs s with
  | true => frameD r.c0 r.C vs s K X
  | false => gamX rs l f vs s K X
theorem gamX_ok : ∀ {rs : List (FuncId × Raw)} {l : List (FuncId × Bool × Sp)}, (∀ p ∈ rs, p.2.Ok P p.1) -> (∀ p ∈ l, p.2.2.Ok P p.1 p.2.1) -> GamOk P (gamX rs l)
 | [], l, _, hl, f, vs, s, K, X, h => gamOf_ok hl f vs s K X (by simpa [gamX] using h)
 | (f', r) :: rs, l, hr, hl, f, vs, s, K, X, h => by
  simp only [gamX] at h
  split at h
  . rename_i hd
    rw [Bool.and_eq_true] at hd
    obtain rfl := of_decide_eq_true hd.1
    exact frameD_sound (fun vs s K X h => (hr (f, r) (by simp)).C_ok h) h
  . exact gamX_ok (fun p hp => hr p (by simp [hp])) hl f vs s K X h
theorem gamOf_det : ∀ {l : List (FuncId × Bool × Sp)}, GamDet (fun _ => false) (gamOf l)
 | [], f, vs, s, K, h => h.elim
 | (f', b, c) :: r, f, vs, s, K, h => by
  simp only [gamOf] at h
  split at h
  . rename_i hd
    cases b with
    | true =>
     obtain ⟨g, ⟨g1, g2⟩, _, g4⟩ := coll_some h
     exact .same g2 fun K' h' => by simp only [gamOf, hd]; exact g4 _ ⟨g1, h'⟩
    | false =>
     obtain ⟨g, ⟨g1, g2⟩, _, g4⟩ := coll_some h
     exact .ob g2 fun K' h' => by simp only [gamOf, hd]; exact g4 _ ⟨g1, h'⟩
  . rename_i hd
    obtain ⟨v, s', h1, h2, h3⟩ := gamOf_det f vs s K h
    exact ⟨v, s', h1, fun K' h' => by simp only [gamOf, hd]; exact h2 K' h', h3⟩
end
theorem gamX_det {l : List (FuncId × Bool × Sp)} : ∀ {rs : List (FuncId × Raw)}, GamDet (fun _ => false) (gamR (isRaw rs) (gamX rs l)) := by
 have key : ∀ (rs : List (FuncId × Raw)) (f : FuncId), isRaw rs f = false -> gamX rs l f = gamOf l f := by
  intro rs
  induction rs with
  | nil => intro f _; rfl
  | cons p rs ih =>
   intro f hf
   obtain ⟨f', r⟩ := p
   simp only [isRaw] at hf
   split at hf
   . cases hf
   . rename_i hd
     funext vs s K X
     simp only [gamX, hd, Bool.false_and]
     rw [ih f hf]
 intro rs f vs s K h
 unfold gamR at h ⊢
 cases hf : isRaw rs f with
 | true => rw [hf] at h; exact h.elim
 | false =>
  rw [hf] at h
  simp only [key rs f hf] at h ⊢
  exact gamOf_det f vs s K h
def wkK (K : Kn) : Kn := fun r s => ∃ r', Weak r r' /\ K r' s
theorem FCalls.weak {P : Program} {f : FuncId} {vs : List T} {s : St} {K X : Kn} (h : FCalls P f vs s (wkK K) X) : FCalls P f vs s K X := by
 refine fun g w hg => (h g w hg).mono fun e w' ⟨g', st', h1, h2, h3⟩ => ?_
 cases e with
 | returned x =>
  obtain ⟨r, ⟨r', r1, r2⟩, r3⟩ := h3
  exact ⟨g', st', h1, h2, r', r2, r1 _ _ _ r3⟩
 | panicked ch => exact ⟨g', st', h1, h2, h3⟩
 | outgrown => exact h3.elim
theorem Weak.refl (v : T) : Weak v v := fun _ _ _ h => h
theorem Weak.sl (b : Bool) (e : El) (l : List (ty e)) : Weak (.sl b e l) (.sl false e l) := fun _ g x h => by
 cases h with
 | sl _ _ _ A c h1 h2 h3 h4 => exact .sl false e l A c h1 h2 (by simp) h4
theorem Weak.nil (e : El) : Weak .nil (.sl false e []) := fun _ g x h => h.wk (.nil e)
theorem WeakL.cons {v u : T} {vs us : List T} (h : Weak v u) (k : WeakL vs us) : WeakL (v :: vs) (u :: us) :=
 ⟨by simp [k.1], fun i w hw => by
  cases i with
  | zero => simp at hw; subst hw; exact ⟨v, rfl, h⟩
  | succ i => simp at hw ⊢; exact k.2 i w hw⟩
theorem WeakL.nil : WeakL [] [] := ⟨rfl, fun i w hw => by simp at hw⟩
theorem WeakL.at {vs us : List T} (k : WeakL vs us) {g : G P} {xs : Array Value} (h : ∀ (i : Nat) (c : T) (x : Value), vs[i]? = some c -> xs[i]? = some x -> R g c x) : ∀ (i : Nat) (c : T) (x : Value), us[i]? = some c -> xs[i]? = some x -> R g c x := by
 intro i c x hc hx
 obtain ⟨v, v1, v2⟩ := k.2 i c hc
 exact v2 _ g x (h i v x v1 hx)
theorem Weak.tu {vs us : List T} (k : WeakL vs us) : Weak (.tu vs) (.tu us) := by
 intro _ g x h
 cases h with
 | tu _ xs h1 h2 => exact .tu us xs (by rw [<- h1]; exact k.1) (k.at h2)
theorem Weak.ag {vs us : List T} (k : WeakL vs us) : Weak (.ag vs) (.ag us) := by
 intro _ g x h
 cases h with
 | ag _ xs h1 h2 h3 => exact .ag us xs (by rw [<- h1]; exact k.1) (k.at h2) h3
theorem wkK.same {K : Kn} {r : T} {s : St} (h : K r s) : wkK K r s := ⟨r, .refl r, h⟩
theorem wkK.sl {K : Kn} {b : Bool} {e : El} {l : List (ty e)} {s : St} (h : K (.sl false e l) s) : wkK K (.sl b e l) s := ⟨_, .sl b e l, h⟩
theorem wkK.nil {K : Kn} (e : El) {s : St} (h : K (.sl false e []) s) : wkK K .nil s := ⟨_, .nil e, h⟩
theorem LoopW.of {γ : Type} {body : (γ -> Prop) -> γ -> Prop} (I : γ -> Prop) (m : γ -> Nat) (hI : ∀ g, I g -> ∀ W : γ -> Prop, (∀ g', I g' -> m g' < m g -> W g') -> body W g) {g : γ} (h : I g) : LoopW body g := by
 have key : ∀ n g, I g -> m g < n -> loopN body n g := by
  intro n
  induction n with
  | zero => intro g _ h; exact absurd h (Nat.not_lt_zero _)
  | succ n ih => intro g hg hm; exact hI g hg _ fun g' h1 h2 => ih g' h1 (by omega)
 exact ⟨m g + 1, key _ g h (Nat.lt_succ_self _)⟩
end Go.Proofs.YtoclmkbjgmgekaaGreatDoor
namespace Go.Proofs.YtoclmkbjgmgekaaGreatDoor
set_option maxRecDepth 100000
abbrev lvs : El -> List Lf
 | .str => [.str]
 | .u8 => [.int .u8]
 | .dig => [.int .u8, .int .u8, .int .u8, .int .u8, .int .u8, .int .u8, .int .u8, .int .u8, .int .u8, .int .u8, .int .u8, .int .u8, .int .u8, .int .u8, .int .u8, .int .u8, .int .u8, .int .u8, .int .u8, .int .u8, .int .u8, .int .u8, .int .u8, .int .u8, .int .u8, .int .u8, .int .u8, .int .u8, .int .u8, .int .u8, .int .u8, .int .u8]
 | .rng => [.int .u8, .int .u8, .int .u8, .int .u8, .int .u8, .int .u8, .int .u8, .int .u8, .int .u8, .int .u8, .int .u8, .int .u8, .int .u8, .int .u8, .int .u8, .int .u8, .int .u8, .int .u8, .int .u8, .int .u8, .int .u8, .int .u8, .int .u8, .int .u8, .int .u8, .int .u8, .int .u8, .int .u8, .int .u8, .int .u8, .int .u8, .int .u8, .int .u8, .int .u8, .int .u8, .int .u8, .int .u8, .int .u8, .int .u8, .int .u8, .int .u8, .int .u8, .int .u8, .int .u8, .int .u8, .int .u8, .int .u8, .int .u8, .int .u8, .int .u8, .int .u8, .int .u8, .int .u8, .int .u8, .int .u8, .int .u8, .int .u8, .int .u8, .int .u8, .int .u8, .int .u8, .int .u8, .int .u8, .int .u8, .bool, .int .i64, .int .u8, .int .u8, .int .u8, .int .u8, .int .u8, .int .u8, .int .u8, .int .u8, .int .u8, .int .u8, .int .u8, .int .u8, .int .u8, .int .u8, .int .u8, .int .u8, .int .u8, .int .u8, .int .u8, .int .u8, .int .u8, .int .u8, .int .u8, .int .u8, .int .u8, .int .u8, .int .u8, .int .u8, .int .u8, .int .u8, .int .u8, .int .u8, .sl .dig]
 | .sgn => [.int .i64, .sl .dig, .sl .dig, .sl .dig]
 | .msg => [.int .i64, .str, .sl .dig, .sl .rng, .sl .str, .sl .str, .int .i64, .str, .int .i64, .sl .dig, .sl .dig, .sl .dig]
 | .ment => [.int .i64, .str]
 | .sexp => [.bool, .str, .sl .sexp]
def mkE : (e : El) -> prodL (lvs e) -> ty e
 | .str, g => g.1
 | .u8, g => g.1
 | .dig, g => let gq1 := g.2.2.2.2.2.2.2.2; let gq2 := gq1.2.2.2.2.2.2.2.2; let gq3 := gq2.2.2.2.2.2.2.2.2; ⟨g.1, g.2.1, g.2.2.1, g.2.2.2.1, g.2.2.2.2.1, g.2.2.2.2.2.1, g.2.2.2.2.2.2.1, g.2.2.2.2.2.2.2.1, gq1.1, gq1.2.1, gq1.2.2.1, gq1.2.2.2.1, gq1.2.2.2.2.1, gq1.2.2.2.2.2.1, gq1.2.2.2.2.2.2.1, gq1.2.2.2.2.2.2.2.1, gq2.1, gq2.2.1, gq2.2.2.1, gq2.2.2.2.1, gq2.2.2.2.2.1, gq2.2.2.2.2.2.1, gq2.2.2.2.2.2.2.1, gq2.2.2.2.2.2.2.2.1, gq3.1, gq3.2.1, gq3.2.2.1, gq3.2.2.2.1, gq3.2.2.2.2.1, gq3.2.2.2.2.2.1, gq3.2.2.2.2.2.2.1, gq3.2.2.2.2.2.2.2.1⟩
 | .rng, g => let gq1 := g.2.2.2.2.2.2.2.2; let gq2 := gq1.2.2.2.2.2.2.2.2; let gq3 := gq2.2.2.2.2.2.2.2.2; let gq4 := gq3.2.2.2.2.2.2.2.2; let gq5 := gq4.2.2.2.2.2.2.2.2; let gq6 := gq5.2.2.2.2.2.2.2.2; let gq7 := gq6.2.2.2.2.2.2.2.2; let gq8 := gq7.2.2.2.2.2.2.2.2; let gq9 := gq8.2.2.2.2.2.2.2.2; let gq10 := gq9.2.2.2.2.2.2.2.2; let gq11 := gq10.2.2.2.2.2.2.2.2; let gq12 := gq11.2.2.2.2.2.2.2.2; ⟨⟨g.1, g.2.1, g.2.2.1, g.2.2.2.1, g.2.2.2.2.1, g.2.2.2.2.2.1, g.2.2.2.2.2.2.1, g.2.2.2.2.2.2.2.1, gq1.1, gq1.2.1, gq1.2.2.1, gq1.2.2.2.1, gq1.2.2.2.2.1, gq1.2.2.2.2.2.1, gq1.2.2.2.2.2.2.1, gq1.2.2.2.2.2.2.2.1, gq2.1, gq2.2.1, gq2.2.2.1, gq2.2.2.2.1, gq2.2.2.2.2.1, gq2.2.2.2.2.2.1, gq2.2.2.2.2.2.2.1, gq2.2.2.2.2.2.2.2.1, gq3.1, gq3.2.1, gq3.2.2.1, gq3.2.2.2.1, gq3.2.2.2.2.1, gq3.2.2.2.2.2.1, gq3.2.2.2.2.2.2.1, gq3.2.2.2.2.2.2.2.1⟩, ⟨gq4.1, gq4.2.1, gq4.2.2.1, gq4.2.2.2.1, gq4.2.2.2.2.1, gq4.2.2.2.2.2.1, gq4.2.2.2.2.2.2.1, gq4.2.2.2.2.2.2.2.1, gq5.1, gq5.2.1, gq5.2.2.1, gq5.2.2.2.1, gq5.2.2.2.2.1, gq5.2.2.2.2.2.1, gq5.2.2.2.2.2.2.1, gq5.2.2.2.2.2.2.2.1, gq6.1, gq6.2.1, gq6.2.2.1, gq6.2.2.2.1, gq6.2.2.2.2.1, gq6.2.2.2.2.2.1, gq6.2.2.2.2.2.2.1, gq6.2.2.2.2.2.2.2.1, gq7.1, gq7.2.1, gq7.2.2.1, gq7.2.2.2.1, gq7.2.2.2.2.1, gq7.2.2.2.2.2.1, gq7.2.2.2.2.2.2.1, gq7.2.2.2.2.2.2.2.1⟩, gq8.1, gq8.2.1, ⟨gq8.2.2.1, gq8.2.2.2.1, gq8.2.2.2.2.1, gq8.2.2.2.2.2.1, gq8.2.2.2.2.2.2.1, gq8.2.2.2.2.2.2.2.1, gq9.1, gq9.2.1, gq9.2.2.1, gq9.2.2.2.1, gq9.2.2.2.2.1, gq9.2.2.2.2.2.1, gq9.2.2.2.2.2.2.1, gq9.2.2.2.2.2.2.2.1, gq10.1, gq10.2.1, gq10.2.2.1, gq10.2.2.2.1, gq10.2.2.2.2.1, gq10.2.2.2.2.2.1, gq10.2.2.2.2.2.2.1, gq10.2.2.2.2.2.2.2.1, gq11.1, gq11.2.1, gq11.2.2.1, gq11.2.2.2.1, gq11.2.2.2.2.1, gq11.2.2.2.2.2.1, gq11.2.2.2.2.2.2.1, gq11.2.2.2.2.2.2.2.1, gq12.1, gq12.2.1⟩, gq12.2.2.1⟩
 | .sgn, g => ⟨g.1, g.2.1, g.2.2.1, g.2.2.2.1⟩
 | .msg, g => ⟨g.1, g.2.1, g.2.2.1, g.2.2.2.1, g.2.2.2.2.1, g.2.2.2.2.2.1, g.2.2.2.2.2.2.1, g.2.2.2.2.2.2.2.1, ⟨g.2.2.2.2.2.2.2.2.1, g.2.2.2.2.2.2.2.2.2.1, g.2.2.2.2.2.2.2.2.2.2.1, g.2.2.2.2.2.2.2.2.2.2.2.1⟩⟩
 | .ment, g => ⟨g.1, g.2.1⟩
 | .sexp, g => ⟨g.1, g.2.1, g.2.2.1⟩
theorem enc_mk : ∀ (e : El) (g : prodL (lvs e)), enc e (mkE e g) = envT (lvs e) g
 | .str, _ => rfl
 | .u8, _ => rfl
 | .dig, _ => rfl
 | .rng, _ => rfl
 | .sgn, _ => rfl
 | .msg, _ => rfl
 | .ment, _ => rfl
 | .sexp, _ => rfl
mutual
def bkS : Sx -> Nat
 | ⟨_, a, l⟩ => a.size + 3 + bkSs l
def bkSs : List Sx -> Nat
 | [] => 0
 | x :: l => bkS x + bkSs l
end
def bk_str (x : ByteArray) : Nat := (x.size + 1)
def bk_u8 (x : Int) : Nat := 1
def bk_dig (x : Dig) : Nat := 32
def bk_rng (x : Rng) : Nat := ((x.ids.map bk_dig).sum + 1) + 98
def bk_sgn (x : Sgn) : Nat := ((x.revealed.map bk_dig).sum + 1) + ((x.others.map bk_dig).sum + 1) + ((x.path.map bk_dig).sum + 1) + 1
def bk_msg (x : Msg) : Nat := (x.name.size + 1) + ((x.ids.map bk_dig).sum + 1) + ((x.ranges.map bk_rng).sum + 1) + ((x.patches.map bk_str).sum + 1) + ((x.paths.map bk_str).sum + 1) + (x.text.size + 1) + ((x.sig.revealed.map bk_dig).sum + 1) + ((x.sig.others.map bk_dig).sum + 1) + ((x.sig.path.map bk_dig).sum + 1) + 3
def bk_ment (x : Ment) : Nat := 1 + (x.val.size + 1)
def bk_sexp (x : Sx) : Nat := bkS x
def bk : (e : El) -> ty e -> Nat
 | .str, x => bk_str x
 | .u8, x => bk_u8 x
 | .dig, x => bk_dig x
 | .rng, x => bk_rng x
 | .sgn, x => bk_sgn x
 | .msg, x => bk_msg x
 | .ment, x => bk_ment x
 | .sexp, x => bk_sexp x
def bkL : (L : List Lf) -> prodL L -> Nat
 | [], _ => 0
 | .int _ :: r, g => 1 + bkL r g.2
 | .bool :: r, g => 1 + bkL r g.2
 | .str :: r, g => g.1.size + 1 + bkL r g.2
 | .sl e :: r, g => (g.1.map (bk e)).sum + 1 + bkL r g.2
 | .cst :: r, g => bkL r g.2
 | .el e :: r, g => bk e g.1 + bkL r g.2
theorem bkSs_sum : ∀ (l : List Sx), bkSs l = (l.map bkS).sum
 | [] => rfl
 | x :: l => by simp only [bkSs, List.map_cons, List.sum_cons, bkSs_sum l]
theorem bk_mk : ∀ (e : El) (g : prodL (lvs e)), bk e (mkE e g) = bkL (lvs e) g
 | .str, g => by
  simp only [bk, bk_str, mkE, bkL] <;> omega
 | .u8, g => by
  simp only [bk, bk_u8, mkE, bkL] <;> omega
 | .dig, g => by
  simp only [bk, bk_dig, mkE, bkL] <;> omega
 | .rng, g => by
  have e98 : (g.2.2.2.2.2.2.2.2.2.2.2.2.2.2.2.2.2.2.2.2.2.2.2.2.2.2.2.2.2.2.2.2.2.2.2.2.2.2.2.2.2.2.2.2.2.2.2.2.2.2.2.2.2.2.2.2.2.2.2.2.2.2.2.2.2.2.2.2.2.2.2.2.2.2.2.2.2.2.2.2.2.2.2.2.2.2.2.2.2.2.2.2.2.2.2.2.2.2.1.map (bk .dig)).sum = (g.2.2.2.2.2.2.2.2.2.2.2.2.2.2.2.2.2.2.2.2.2.2.2.2.2.2.2.2.2.2.2.2.2.2.2.2.2.2.2.2.2.2.2.2.2.2.2.2.2.2.2.2.2.2.2.2.2.2.2.2.2.2.2.2.2.2.2.2.2.2.2.2.2.2.2.2.2.2.2.2.2.2.2.2.2.2.2.2.2.2.2.2.2.2.2.2.2.2.1.map bk_dig).sum := rfl
  simp only [bk, bk_rng, mkE, bkL, e98] <;> omega
 | .sgn, g => by
  have e1 : (g.2.1.map (bk .dig)).sum = (g.2.1.map bk_dig).sum := rfl
  have e2 : (g.2.2.1.map (bk .dig)).sum = (g.2.2.1.map bk_dig).sum := rfl
  have e3 : (g.2.2.2.1.map (bk .dig)).sum = (g.2.2.2.1.map bk_dig).sum := rfl
  simp only [bk, bk_sgn, mkE, bkL, e1, e2, e3] <;> omega
 | .msg, g => by
  have e2 : (g.2.2.1.map (bk .dig)).sum = (g.2.2.1.map bk_dig).sum := rfl
  have e3 : (g.2.2.2.1.map (bk .rng)).sum = (g.2.2.2.1.map bk_rng).sum := rfl
  have e4 : (g.2.2.2.2.1.map (bk .str)).sum = (g.2.2.2.2.1.map bk_str).sum := rfl
  have e5 : (g.2.2.2.2.2.1.map (bk .str)).sum = (g.2.2.2.2.2.1.map bk_str).sum := rfl
  have e9 : (g.2.2.2.2.2.2.2.2.2.1.map (bk .dig)).sum = (g.2.2.2.2.2.2.2.2.2.1.map bk_dig).sum := rfl
  have e10 : (g.2.2.2.2.2.2.2.2.2.2.1.map (bk .dig)).sum = (g.2.2.2.2.2.2.2.2.2.2.1.map bk_dig).sum := rfl
  have e11 : (g.2.2.2.2.2.2.2.2.2.2.2.1.map (bk .dig)).sum = (g.2.2.2.2.2.2.2.2.2.2.2.1.map bk_dig).sum := rfl
  simp only [bk, bk_msg, mkE, bkL, e2, e3, e4, e5, e9, e10, e11] <;> omega
 | .ment, g => by
  simp only [bk, bk_ment, mkE, bkL] <;> omega
 | .sexp, g => by
  have e : (g.2.2.1.map (bk .sexp)).sum = (g.2.2.1.map bkS).sum := rfl
  simp only [bk, bk_sexp, mkE, bkL, bkS, bkSs_sum, e]; omega
def wf_str (x : ByteArray) : Prop := True
def wf_u8 (x : Int) : Prop := (IntKind.u8.min <= x /\ x <= IntKind.u8.max)
def wf_dig (x : Dig) : Prop := (IntKind.u8.min <= x.b0 /\ x.b0 <= IntKind.u8.max) /\ (IntKind.u8.min <= x.b1 /\ x.b1 <= IntKind.u8.max) /\ (IntKind.u8.min <= x.b2 /\ x.b2 <= IntKind.u8.max) /\ (IntKind.u8.min <= x.b3 /\ x.b3 <= IntKind.u8.max) /\ (IntKind.u8.min <= x.b4 /\ x.b4 <= IntKind.u8.max) /\ (IntKind.u8.min <= x.b5 /\ x.b5 <= IntKind.u8.max) /\ (IntKind.u8.min <= x.b6 /\ x.b6 <= IntKind.u8.max) /\ (IntKind.u8.min <= x.b7 /\ x.b7 <= IntKind.u8.max) /\ (IntKind.u8.min <= x.b8 /\ x.b8 <= IntKind.u8.max) /\ (IntKind.u8.min <= x.b9 /\ x.b9 <= IntKind.u8.max) /\ (IntKind.u8.min <= x.b10 /\ x.b10 <= IntKind.u8.max) /\ (IntKind.u8.min <= x.b11 /\ x.b11 <= IntKind.u8.max) /\ (IntKind.u8.min <= x.b12 /\ x.b12 <= IntKind.u8.max) /\ (IntKind.u8.min <= x.b13 /\ x.b13 <= IntKind.u8.max) /\ (IntKind.u8.min <= x.b14 /\ x.b14 <= IntKind.u8.max) /\ (IntKind.u8.min <= x.b15 /\ x.b15 <= IntKind.u8.max) /\ (IntKind.u8.min <= x.b16 /\ x.b16 <= IntKind.u8.max) /\ (IntKind.u8.min <= x.b17 /\ x.b17 <= IntKind.u8.max) /\ (IntKind.u8.min <= x.b18 /\ x.b18 <= IntKind.u8.max) /\ (IntKind.u8.min <= x.b19 /\ x.b19 <= IntKind.u8.max) /\ (IntKind.u8.min <= x.b20 /\ x.b20 <= IntKind.u8.max) /\ (IntKind.u8.min <= x.b21 /\ x.b21 <= IntKind.u8.max) /\ (IntKind.u8.min <= x.b22 /\ x.b22 <= IntKind.u8.max) /\ (IntKind.u8.min <= x.b23 /\ x.b23 <= IntKind.u8.max) /\ (IntKind.u8.min <= x.b24 /\ x.b24 <= IntKind.u8.max) /\ (IntKind.u8.min <= x.b25 /\ x.b25 <= IntKind.u8.max) /\ (IntKind.u8.min <= x.b26 /\ x.b26 <= IntKind.u8.max) /\ (IntKind.u8.min <= x.b27 /\ x.b27 <= IntKind.u8.max) /\ (IntKind.u8.min <= x.b28 /\ x.b28 <= IntKind.u8.max) /\ (IntKind.u8.min <= x.b29 /\ x.b29 <= IntKind.u8.max) /\ (IntKind.u8.min <= x.b30 /\ x.b30 <= IntKind.u8.max) /\ (IntKind.u8.min <= x.b31 /\ x.b31 <= IntKind.u8.max)
def wf_rng (x : Rng) : Prop := (IntKind.u8.min <= x.low.b0 /\ x.low.b0 <= IntKind.u8.max) /\ (IntKind.u8.min <= x.low.b1 /\ x.low.b1 <= IntKind.u8.max) /\ (IntKind.u8.min <= x.low.b2 /\ x.low.b2 <= IntKind.u8.max) /\ (IntKind.u8.min <= x.low.b3 /\ x.low.b3 <= IntKind.u8.max) /\ (IntKind.u8.min <= x.low.b4 /\ x.low.b4 <= IntKind.u8.max) /\ (IntKind.u8.min <= x.low.b5 /\ x.low.b5 <= IntKind.u8.max) /\ (IntKind.u8.min <= x.low.b6 /\ x.low.b6 <= IntKind.u8.max) /\ (IntKind.u8.min <= x.low.b7 /\ x.low.b7 <= IntKind.u8.max) /\ (IntKind.u8.min <= x.low.b8 /\ x.low.b8 <= IntKind.u8.max) /\ (IntKind.u8.min <= x.low.b9 /\ x.low.b9 <= IntKind.u8.max) /\ (IntKind.u8.min <= x.low.b10 /\ x.low.b10 <= IntKind.u8.max) /\ (IntKind.u8.min <= x.low.b11 /\ x.low.b11 <= IntKind.u8.max) /\ (IntKind.u8.min <= x.low.b12 /\ x.low.b12 <= IntKind.u8.max) /\ (IntKind.u8.min <= x.low.b13 /\ x.low.b13 <= IntKind.u8.max) /\ (IntKind.u8.min <= x.low.b14 /\ x.low.b14 <= IntKind.u8.max) /\ (IntKind.u8.min <= x.low.b15 /\ x.low.b15 <= IntKind.u8.max) /\ (IntKind.u8.min <= x.low.b16 /\ x.low.b16 <= IntKind.u8.max) /\ (IntKind.u8.min <= x.low.b17 /\ x.low.b17 <= IntKind.u8.max) /\ (IntKind.u8.min <= x.low.b18 /\ x.low.b18 <= IntKind.u8.max) /\ (IntKind.u8.min <= x.low.b19 /\ x.low.b19 <= IntKind.u8.max) /\ (IntKind.u8.min <= x.low.b20 /\ x.low.b20 <= IntKind.u8.max) /\ (IntKind.u8.min <= x.low.b21 /\ x.low.b21 <= IntKind.u8.max) /\ (IntKind.u8.min <= x.low.b22 /\ x.low.b22 <= IntKind.u8.max) /\ (IntKind.u8.min <= x.low.b23 /\ x.low.b23 <= IntKind.u8.max) /\ (IntKind.u8.min <= x.low.b24 /\ x.low.b24 <= IntKind.u8.max) /\ (IntKind.u8.min <= x.low.b25 /\ x.low.b25 <= IntKind.u8.max) /\ (IntKind.u8.min <= x.low.b26 /\ x.low.b26 <= IntKind.u8.max) /\ (IntKind.u8.min <= x.low.b27 /\ x.low.b27 <= IntKind.u8.max) /\ (IntKind.u8.min <= x.low.b28 /\ x.low.b28 <= IntKind.u8.max) /\ (IntKind.u8.min <= x.low.b29 /\ x.low.b29 <= IntKind.u8.max) /\ (IntKind.u8.min <= x.low.b30 /\ x.low.b30 <= IntKind.u8.max) /\ (IntKind.u8.min <= x.low.b31 /\ x.low.b31 <= IntKind.u8.max) /\ (IntKind.u8.min <= x.high.b0 /\ x.high.b0 <= IntKind.u8.max) /\ (IntKind.u8.min <= x.high.b1 /\ x.high.b1 <= IntKind.u8.max) /\ (IntKind.u8.min <= x.high.b2 /\ x.high.b2 <= IntKind.u8.max) /\ (IntKind.u8.min <= x.high.b3 /\ x.high.b3 <= IntKind.u8.max) /\ (IntKind.u8.min <= x.high.b4 /\ x.high.b4 <= IntKind.u8.max) /\ (IntKind.u8.min <= x.high.b5 /\ x.high.b5 <= IntKind.u8.max) /\ (IntKind.u8.min <= x.high.b6 /\ x.high.b6 <= IntKind.u8.max) /\ (IntKind.u8.min <= x.high.b7 /\ x.high.b7 <= IntKind.u8.max) /\ (IntKind.u8.min <= x.high.b8 /\ x.high.b8 <= IntKind.u8.max) /\ (IntKind.u8.min <= x.high.b9 /\ x.high.b9 <= IntKind.u8.max) /\ (IntKind.u8.min <= x.high.b10 /\ x.high.b10 <= IntKind.u8.max) /\ (IntKind.u8.min <= x.high.b11 /\ x.high.b11 <= IntKind.u8.max) /\ (IntKind.u8.min <= x.high.b12 /\ x.high.b12 <= IntKind.u8.max) /\ (IntKind.u8.min <= x.high.b13 /\ x.high.b13 <= IntKind.u8.max) /\ (IntKind.u8.min <= x.high.b14 /\ x.high.b14 <= IntKind.u8.max) /\ (IntKind.u8.min <= x.high.b15 /\ x.high.b15 <= IntKind.u8.max) /\ (IntKind.u8.min <= x.high.b16 /\ x.high.b16 <= IntKind.u8.max) /\ (IntKind.u8.min <= x.high.b17 /\ x.high.b17 <= IntKind.u8.max) /\ (IntKind.u8.min <= x.high.b18 /\ x.high.b18 <= IntKind.u8.max) /\ (IntKind.u8.min <= x.high.b19 /\ x.high.b19 <= IntKind.u8.max) /\ (IntKind.u8.min <= x.high.b20 /\ x.high.b20 <= IntKind.u8.max) /\ (IntKind.u8.min <= x.high.b21 /\ x.high.b21 <= IntKind.u8.max) /\ (IntKind.u8.min <= x.high.b22 /\ x.high.b22 <= IntKind.u8.max) /\ (IntKind.u8.min <= x.high.b23 /\ x.high.b23 <= IntKind.u8.max) /\ (IntKind.u8.min <= x.high.b24 /\ x.high.b24 <= IntKind.u8.max) /\ (IntKind.u8.min <= x.high.b25 /\ x.high.b25 <= IntKind.u8.max) /\ (IntKind.u8.min <= x.high.b26 /\ x.high.b26 <= IntKind.u8.max) /\ (IntKind.u8.min <= x.high.b27 /\ x.high.b27 <= IntKind.u8.max) /\ (IntKind.u8.min <= x.high.b28 /\ x.high.b28 <= IntKind.u8.max) /\ (IntKind.u8.min <= x.high.b29 /\ x.high.b29 <= IntKind.u8.max) /\ (IntKind.u8.min <= x.high.b30 /\ x.high.b30 <= IntKind.u8.max) /\ (IntKind.u8.min <= x.high.b31 /\ x.high.b31 <= IntKind.u8.max) /\ (IntKind.i64.min <= x.count /\ x.count <= IntKind.i64.max) /\ (IntKind.u8.min <= x.print.b0 /\ x.print.b0 <= IntKind.u8.max) /\ (IntKind.u8.min <= x.print.b1 /\ x.print.b1 <= IntKind.u8.max) /\ (IntKind.u8.min <= x.print.b2 /\ x.print.b2 <= IntKind.u8.max) /\ (IntKind.u8.min <= x.print.b3 /\ x.print.b3 <= IntKind.u8.max) /\ (IntKind.u8.min <= x.print.b4 /\ x.print.b4 <= IntKind.u8.max) /\ (IntKind.u8.min <= x.print.b5 /\ x.print.b5 <= IntKind.u8.max) /\ (IntKind.u8.min <= x.print.b6 /\ x.print.b6 <= IntKind.u8.max) /\ (IntKind.u8.min <= x.print.b7 /\ x.print.b7 <= IntKind.u8.max) /\ (IntKind.u8.min <= x.print.b8 /\ x.print.b8 <= IntKind.u8.max) /\ (IntKind.u8.min <= x.print.b9 /\ x.print.b9 <= IntKind.u8.max) /\ (IntKind.u8.min <= x.print.b10 /\ x.print.b10 <= IntKind.u8.max) /\ (IntKind.u8.min <= x.print.b11 /\ x.print.b11 <= IntKind.u8.max) /\ (IntKind.u8.min <= x.print.b12 /\ x.print.b12 <= IntKind.u8.max) /\ (IntKind.u8.min <= x.print.b13 /\ x.print.b13 <= IntKind.u8.max) /\ (IntKind.u8.min <= x.print.b14 /\ x.print.b14 <= IntKind.u8.max) /\ (IntKind.u8.min <= x.print.b15 /\ x.print.b15 <= IntKind.u8.max) /\ (IntKind.u8.min <= x.print.b16 /\ x.print.b16 <= IntKind.u8.max) /\ (IntKind.u8.min <= x.print.b17 /\ x.print.b17 <= IntKind.u8.max) /\ (IntKind.u8.min <= x.print.b18 /\ x.print.b18 <= IntKind.u8.max) /\ (IntKind.u8.min <= x.print.b19 /\ x.print.b19 <= IntKind.u8.max) /\ (IntKind.u8.min <= x.print.b20 /\ x.print.b20 <= IntKind.u8.max) /\ (IntKind.u8.min <= x.print.b21 /\ x.print.b21 <= IntKind.u8.max) /\ (IntKind.u8.min <= x.print.b22 /\ x.print.b22 <= IntKind.u8.max) /\ (IntKind.u8.min <= x.print.b23 /\ x.print.b23 <= IntKind.u8.max) /\ (IntKind.u8.min <= x.print.b24 /\ x.print.b24 <= IntKind.u8.max) /\ (IntKind.u8.min <= x.print.b25 /\ x.print.b25 <= IntKind.u8.max) /\ (IntKind.u8.min <= x.print.b26 /\ x.print.b26 <= IntKind.u8.max) /\ (IntKind.u8.min <= x.print.b27 /\ x.print.b27 <= IntKind.u8.max) /\ (IntKind.u8.min <= x.print.b28 /\ x.print.b28 <= IntKind.u8.max) /\ (IntKind.u8.min <= x.print.b29 /\ x.print.b29 <= IntKind.u8.max) /\ (IntKind.u8.min <= x.print.b30 /\ x.print.b30 <= IntKind.u8.max) /\ (IntKind.u8.min <= x.print.b31 /\ x.print.b31 <= IntKind.u8.max) /\ (∀ y ∈ x.ids, wf_dig y)
def wf_sgn (x : Sgn) : Prop := (IntKind.i64.min <= x.index /\ x.index <= IntKind.i64.max) /\ (∀ y ∈ x.revealed, wf_dig y) /\ (∀ y ∈ x.others, wf_dig y) /\ (∀ y ∈ x.path, wf_dig y)
def wf_msg (x : Msg) : Prop := (IntKind.i64.min <= x.kind /\ x.kind <= IntKind.i64.max) /\ (∀ y ∈ x.ids, wf_dig y) /\ (∀ y ∈ x.ranges, wf_rng y) /\ (∀ y ∈ x.patches, wf_str y) /\ (∀ y ∈ x.paths, wf_str y) /\ (IntKind.i64.min <= x.code /\ x.code <= IntKind.i64.max) /\ (IntKind.i64.min <= x.sig.index /\ x.sig.index <= IntKind.i64.max) /\ (∀ y ∈ x.sig.revealed, wf_dig y) /\ (∀ y ∈ x.sig.others, wf_dig y) /\ (∀ y ∈ x.sig.path, wf_dig y)
def wf_ment (x : Ment) : Prop := (IntKind.i64.min <= x.key /\ x.key <= IntKind.i64.max)
def wf_sexp (_ : Sx) : Prop := True
def wfE : (e : El) -> ty e -> Prop
 | .str, x => wf_str x
 | .u8, x => wf_u8 x
 | .dig, x => wf_dig x
 | .rng, x => wf_rng x
 | .sgn, x => wf_sgn x
 | .msg, x => wf_msg x
 | .ment, x => wf_ment x
 | .sexp, x => wf_sexp x
def wfL : (L : List Lf) -> prodL L -> Prop
 | [], _ => True
 | .int k :: r, g => (k.min <= g.1 /\ g.1 <= k.max) /\ wfL r g.2
 | .sl e :: r, g => (∀ x ∈ g.1, wfE e x) /\ wfL r g.2
 | .bool :: r, g => wfL r g.2
 | .str :: r, g => wfL r g.2
 | .cst :: r, g => wfL r g.2
 | .el e :: r, g => wfE e g.1 /\ wfL r g.2
theorem wf_mk : ∀ (e : El) (g : prodL (lvs e)), wfL (lvs e) g -> wfE e (mkE e g)
 | .str, _, _ => trivial
 | .u8, _, h => h.1
 | .dig, _, h => have hq1 := h.2.2.2.2.2.2.2.2; have hq2 := hq1.2.2.2.2.2.2.2.2; have hq3 := hq2.2.2.2.2.2.2.2.2; ⟨h.1, h.2.1, h.2.2.1, h.2.2.2.1, h.2.2.2.2.1, h.2.2.2.2.2.1, h.2.2.2.2.2.2.1, h.2.2.2.2.2.2.2.1, hq1.1, hq1.2.1, hq1.2.2.1, hq1.2.2.2.1, hq1.2.2.2.2.1, hq1.2.2.2.2.2.1, hq1.2.2.2.2.2.2.1, hq1.2.2.2.2.2.2.2.1, hq2.1, hq2.2.1, hq2.2.2.1, hq2.2.2.2.1, hq2.2.2.2.2.1, hq2.2.2.2.2.2.1, hq2.2.2.2.2.2.2.1, hq2.2.2.2.2.2.2.2.1, hq3.1, hq3.2.1, hq3.2.2.1, hq3.2.2.2.1, hq3.2.2.2.2.1, hq3.2.2.2.2.2.1, hq3.2.2.2.2.2.2.1, hq3.2.2.2.2.2.2.2.1⟩
 | .rng, _, h => have hq1 := h.2.2.2.2.2.2.2.2; have hq2 := hq1.2.2.2.2.2.2.2.2; have hq3 := hq2.2.2.2.2.2.2.2.2; have hq4 := hq3.2.2.2.2.2.2.2.2; have hq5 := hq4.2.2.2.2.2.2.2.2; have hq6 := hq5.2.2.2.2.2.2.2.2; have hq7 := hq6.2.2.2.2.2.2.2.2; have hq8 := hq7.2.2.2.2.2.2.2.2; have hq9 := hq8.2.2.2.2.2.2.2.2; have hq10 := hq9.2.2.2.2.2.2.2.2; have hq11 := hq10.2.2.2.2.2.2.2.2; have hq12 := hq11.2.2.2.2.2.2.2.2; ⟨h.1, h.2.1, h.2.2.1, h.2.2.2.1, h.2.2.2.2.1, h.2.2.2.2.2.1, h.2.2.2.2.2.2.1, h.2.2.2.2.2.2.2.1, hq1.1, hq1.2.1, hq1.2.2.1, hq1.2.2.2.1, hq1.2.2.2.2.1, hq1.2.2.2.2.2.1, hq1.2.2.2.2.2.2.1, hq1.2.2.2.2.2.2.2.1, hq2.1, hq2.2.1, hq2.2.2.1, hq2.2.2.2.1, hq2.2.2.2.2.1, hq2.2.2.2.2.2.1, hq2.2.2.2.2.2.2.1, hq2.2.2.2.2.2.2.2.1, hq3.1, hq3.2.1, hq3.2.2.1, hq3.2.2.2.1, hq3.2.2.2.2.1, hq3.2.2.2.2.2.1, hq3.2.2.2.2.2.2.1, hq3.2.2.2.2.2.2.2.1, hq4.1, hq4.2.1, hq4.2.2.1, hq4.2.2.2.1, hq4.2.2.2.2.1, hq4.2.2.2.2.2.1, hq4.2.2.2.2.2.2.1, hq4.2.2.2.2.2.2.2.1, hq5.1, hq5.2.1, hq5.2.2.1, hq5.2.2.2.1, hq5.2.2.2.2.1, hq5.2.2.2.2.2.1, hq5.2.2.2.2.2.2.1, hq5.2.2.2.2.2.2.2.1, hq6.1, hq6.2.1, hq6.2.2.1, hq6.2.2.2.1, hq6.2.2.2.2.1, hq6.2.2.2.2.2.1, hq6.2.2.2.2.2.2.1, hq6.2.2.2.2.2.2.2.1, hq7.1, hq7.2.1, hq7.2.2.1, hq7.2.2.2.1, hq7.2.2.2.2.1, hq7.2.2.2.2.2.1, hq7.2.2.2.2.2.2.1, hq7.2.2.2.2.2.2.2.1, hq8.1, hq8.2.1, hq8.2.2.1, hq8.2.2.2.1, hq8.2.2.2.2.1, hq8.2.2.2.2.2.1, hq8.2.2.2.2.2.2.1, hq8.2.2.2.2.2.2.2.1, hq9.1, hq9.2.1, hq9.2.2.1, hq9.2.2.2.1, hq9.2.2.2.2.1, hq9.2.2.2.2.2.1, hq9.2.2.2.2.2.2.1, hq9.2.2.2.2.2.2.2.1, hq10.1, hq10.2.1, hq10.2.2.1, hq10.2.2.2.1, hq10.2.2.2.2.1, hq10.2.2.2.2.2.1, hq10.2.2.2.2.2.2.1, hq10.2.2.2.2.2.2.2.1, hq11.1, hq11.2.1, hq11.2.2.1, hq11.2.2.2.1, hq11.2.2.2.2.1, hq11.2.2.2.2.2.1, hq11.2.2.2.2.2.2.1, hq11.2.2.2.2.2.2.2.1, hq12.1, hq12.2.1⟩
 | .sgn, _, h => ⟨h.1, h.2.1, h.2.2.1, h.2.2.2.1⟩
 | .msg, _, h => ⟨h.1, h.2.1, h.2.2.1, h.2.2.2.1, h.2.2.2.2.1, h.2.2.2.2.2.1, h.2.2.2.2.2.2.1, h.2.2.2.2.2.2.2.1, h.2.2.2.2.2.2.2.2.1, h.2.2.2.2.2.2.2.2.2.1⟩
 | .ment, _, h => h.1
 | .sexp, _, _ => trivial
end Go.Proofs.YtoclmkbjgmgekaaGreatDoor
namespace Go.Proofs.YtoclmkbjgmgekaaGreatDoor
open Go.RowKit Go.ChangeShapes
variable {P : Program}
mutual
inductive Rd (w : World) : T -> Value -> Prop where
 | int (k : IntKind) (n : Int) : Rd w (.int k n) (.int k n)
 | bool (b : Bool) : Rd w (.bool b) (.bool b)
 | str (s : ByteArray) : Rd w (.str s) (.string s)
 | cst (v : Value) : v.oneCell' = true -> Rd w (.cst v) v
 | sl0 (e : El) (A : Option Addr) (c : Nat) : c <= maxLen -> Rd w (.sl false e []) (.slice A 0 c)
 | sl (e : El) (l : List (ty e)) (b off : Nat) (cs : List T) (c : Nat) : l.length <= c -> c <= maxLen -> RdB w b cs -> (cs.drop off).take (l.length * sz e) = encs e l -> Rd w (.sl false e l) (.slice (some ⟨b, off, none⟩) l.length c)
inductive RdB (w : World) : Nat -> List T -> Prop where
 | mk (b : Nat) (cs : List T) (blk : Array Value) (E : TypeId) (fr : Nat × Nat) : w.heap[b]? = some (.cells blk E fr) -> (∀ n : Nat, cs ≠ [.tu [.int .i64 (n : Int)]]) -> cs.length <= blk.size -> (∀ (j : Nat) (u : T) (x : Value), cs[j]? = some u -> blk[j]? = some x -> u.pure1 = true -> Rd w u x) -> RdB w b cs
 | ex (b n : Nat) (blk : Array Value) (E : TypeId) (fr : Nat × Nat) : w.heap[b]? = some (.cells blk E fr) -> blk.size = n -> 0 < n -> RdB w b [.tu [.int .i64 (n : Int)]]
end
def g0 (P : Program) (w : World) : G P := ⟨.mk, RdB w, fun _ _ => none, fun _ _ => False, fun _ => False⟩
theorem Rd.R {P : Program} {w : World} {u : T} {x : Value} (h : Rd w u x) : R (g0 P w) u x /\ x.oneCell' = true := by
 cases h with
 | int k n => exact ⟨.int k n, rfl⟩
 | bool b => exact ⟨.bool b, rfl⟩
 | str s => exact ⟨.str s, rfl⟩
 | cst v h => exact ⟨.cst _, h⟩
 | sl0 e A c h => exact ⟨.sl false e [] A c (Nat.zero_le _) h (by simp) (by simp), rfl⟩
 | sl e l b off cs c h1 h2 h3 h4 => exact ⟨.sl false e l _ c h1 h2 (by simp) fun _ => ⟨b, off, cs, rfl, h3, h4⟩, rfl⟩
theorem good0 {P : Program} (w : World) (hl : LaidG (RdB w)) : Good (g0 P w) [] w := by
 refine ⟨fun b cs h => ?_, fun k o h => by simp at h, fun k k' o o' b h => by simp at h, fun k v oi h => by simp [g0] at h, fun _ _ h => h.elim, fun _ h => h.elim, hl⟩
 cases h with
 | ex _ n blk E fr h1 h2 h3 =>
  refine ⟨blk, E, fr, h1, fun m e => ?_, by simp; omega, fun j u hj hp => ?_⟩
  . simp only [List.cons.injEq, T.tu.injEq, T.int.injEq, true_and, and_true] at e
    omega
  . cases j with
    | zero => simp at hj; subst hj; simp [T.pure1] at hp
    | succ j => simp at hj
 | mk _ _ blk E fr h1 hne h2 h3 =>
  refine ⟨blk, E, fr, h1, fun n e => absurd e (hne n), h2, fun j u hj hp => ?_⟩
  have hlt : j < blk.size := Nat.lt_of_lt_of_le (List.getElem?_eq_some_iff.1 hj).1 h2
  have h := (h3 j u _ hj (Array.getElem?_eq_getElem hlt) hp).R (P := P)
  exact ⟨_, Array.getElem?_eq_getElem hlt, h.2, h.1⟩
def RdL (w : World) : List T -> List Value -> Prop
 | [], [] => True
 | u :: us, x :: xs => Rd w u x /\ RdL w us xs
 | _, _ => False
theorem RdL.len {w : World} : ∀ {us : List T} {xs : List Value}, RdL w us xs -> us.length = xs.length
 | [], [], _ => rfl
 | _ :: us, _ :: xs, h => by simp [RdL.len (us := us) (xs := xs) h.2]
 | [], _ :: _, h => h.elim
 | _ :: _, [], h => h.elim
theorem RdL.append {w : World} : ∀ {us us' : List T} {xs xs' : List Value}, RdL w us xs -> RdL w us' xs' -> RdL w (us ++ us') (xs ++ xs')
 | [], _, [], _, _, h => h
 | _ :: us, _, _ :: xs, _, h, k => ⟨h.1, RdL.append (us := us) (xs := xs) h.2 k⟩
 | [], _, _ :: _, _, h, _ => h.elim
 | _ :: _, _, [], _, h, _ => h.elim
theorem RdL.get {w : World} : ∀ {us : List T} {xs : List Value}, RdL w us xs -> ∀ (i : Nat) (u : T) (x : Value), us[i]? = some u -> xs[i]? = some x -> Rd w u x
 | [], [], _, i, u, x, h, _ => by simp at h
 | v :: us, y :: xs, h, 0, u, x, hu, hx => by simp at hu hx; subst hu; subst hx; exact h.1
 | v :: us, y :: xs, h, i + 1, u, x, hu, hx => by simp at hu hx; exact RdL.get h.2 i u x hu hx
 | [], _ :: _, h, _, _, _, _, _ => h.elim
 | _ :: _, [], h, _, _, _, _, _ => h.elim
def appG : (L M : List Lf) -> prodL L -> prodL M -> prodL (L ++ M)
 | [], _, _, g => g
 | _ :: r, M, g, k => (g.1, appG r M g.2 k)
theorem envT_app : ∀ (L M : List Lf) (g : prodL L) (k : prodL M), envT (L ++ M) (appG L M g k) = envT L g ++ envT M k
 | [], _, _, _ => rfl
 | a :: r, M, g, k => by simp only [List.cons_append, envT, appG, envT_app r M g.2 k]
theorem bkL_app : ∀ (L M : List Lf) (g : prodL L) (k : prodL M), bkL (L ++ M) (appG L M g k) = bkL L g + bkL M k
 | [], _, _, _ => by simp [bkL, appG]
 | a :: r, M, g, k => by
  have := bkL_app r M g.2 k
  cases a <;> simp only [List.cons_append, bkL, appG] <;> omega
theorem wfL_app : ∀ (L M : List Lf) (g : prodL L) (k : prodL M), wfL L g -> wfL M k -> wfL (L ++ M) (appG L M g k)
 | [], _, _, _, _, h => h
 | a :: r, M, g, k, h, h' => by
  cases a with
  | int => exact ⟨h.1, wfL_app r M g.2 k h.2 h'⟩
  | sl => exact ⟨h.1, wfL_app r M g.2 k h.2 h'⟩
  | bool => exact wfL_app r M g.2 k h h'
  | str => exact wfL_app r M g.2 k h h'
  | cst => exact wfL_app r M g.2 k h h'
  | el => exact ⟨h.1, wfL_app r M g.2 k h.2 h'⟩
theorem envT_len : ∀ (L : List Lf) (g : prodL L), (envT L g).length = L.length
 | [], _ => rfl
 | _ :: r, g => by simp [envT, envT_len r g.2]
def flatFs (F : TypeId -> Option (List Lf)) : Nat -> List (Nat × TypeId) -> Option (List Lf)
 | _, [] => some []
 | o, (off, t) :: r => match decide (off = o), F t with
  | true, some L => match flatFs F (o + L.length) r with
   | some M => some (L ++ M)
   | none => none
  | _, _ => none
def flatL (D : TD) : Nat -> TypeId -> Option (List Lf)
 | 0, _ => none
 | n + 1, t => match tyOf D t with
  | some ti => match ti.srt with
   | .int k => some [.int k]
   | .bool => some [.bool]
   | .string => some [.str]
   | .slice e => match tyOf D e with
    | some te => match te.el with
     | some k => some [.sl k]
     | none => none
    | none => none
   | .struct fs => match flatFs (flatL D n) 0 fs with
    | some L => match decide (L.length = ti.size) with
     | true => some L
     | false => none
    | none => none
   | .array m e => match tyOf D e with
    | some te => match flatFs (flatL D n) 0 ((List.range' 0 m).map fun i => (i * te.size, e)) with
     | some L => match decide (L.length = ti.size) with
      | true => some L
      | false => none
     | none => none
    | none => none
   | _ => none
  | none => none
abbrev KindsOk (D : TD) : Prop := ∀ t te e, tyOf D t = some te -> te.el = some e -> ∃ m, flatL D m t = some (lvs e)
section
variable {P : Program} {D : TD} {w : World} {H : Type} {en : TypeId × Value -> H}
theorem mapM_get {α β : Type} {f : α -> Option β} {l : List α} {r : List β} (h : l.mapM f = some r) : r.length = l.length /\ ∀ (i : Nat) (x : α) (y : β), l[i]? = some x -> r[i]? = some y -> f x = some y :=
 ⟨mapM_some_length h, fun i x y hx hy => by rw [mapM_some_get h i x hx, hy]⟩
theorem cellsOf_ti {t : TypeId} {ti : TI} (h : TIok P t ti) : P.cellsOf t = ti.size := by
 obtain ⟨i, h1, h2, _⟩ := h.info
 simp [Program.cellsOf, h1, h2]
theorem cells_at {b : Nat} {a : Addr} {n : Nat} {l : List Value} (h : w.cells? b a n = some l) : l.length = n /\ ∀ (i : Nat) (x : Value), l[i]? = some x -> w.cell? (a.add i) = some x := by
 unfold World.cells? at h
 split at h
 . obtain ⟨h1, h2⟩ := mapM_get h
   refine ⟨by simpa using h1, fun i x hx => ?_⟩
   have hi : i < n := by have := (List.getElem?_eq_some_iff.1 hx).1; simpa [h1] using this
   exact h2 i i x (by simp [hi]) hx
 . cases h
theorem encs_split {e : El} {l : List (ty e)} {J : Nat} {u : T} (h : (encs e l)[J]? = some u) : ∃ i j x, J = i * sz e + j /\ j < sz e /\ l[i]? = some x /\ (enc e x)[j]? = some u := by
 have hp := sz_pos e
 have hlt : J < l.length * sz e := by have := (List.getElem?_eq_some_iff.1 h).1; rwa [encs_len] at this
 have hi : J / sz e < l.length := by rw [Nat.div_lt_iff_lt_mul hp]; exact hlt
 have hj := Nat.mod_lt J hp
 have hJ : J = J / sz e * sz e + J % sz e := by rw [Nat.mul_comm]; exact (Nat.div_add_mod J (sz e)).symm
 refine ⟨J / sz e, J % sz e, l[J / sz e], hJ, hj, List.getElem?_eq_getElem hi, ?_⟩
 rw [<- encs_get (List.getElem?_eq_getElem hi) hj, <- hJ]
 exact h
theorem take_len {α : Type} {l : List α} {n m : Nat} (h : (l.take n).length = m) : l.take n = l.take m := by
 rw [List.length_take] at h
 by_cases e : n <= l.length
 . rw [Nat.min_eq_left e] at h; rw [h]
 . rw [List.take_of_length_le (by omega), List.take_of_length_le (by omega)]
theorem flat_fields {fuel : Nat} {F : TypeId -> Option (List Lf)} {cs : List Value}
  (ih : ∀ t L cs x, F t = some L -> DataW.trod en P w 0 (fun _ => true) true fuel t cs = some x -> ∃ g : prodL L, RdL w (envT L g) cs /\ wfL L g /\ bkL L g <= Rows.uptoBulk x.1) :
  ∀ (fs : List Field) (o : Nat) (L : List Lf) (xs : List (DataW H × List MemPlace)), flatFs F o (fs.map fun f => (f.offset, f.type)) = some L -> fs.mapM (fun f => DataW.trod en P w 0 (fun _ => true) true fuel f.type ((cs.drop f.offset).take (P.cellsOf f.type))) = some xs ->
   ∃ g : prodL L, RdL w (envT L g) ((cs.drop o).take L.length) /\ wfL L g /\ bkL L g <= Rows.uptoBulkAll (xs.map (·.1))
 | [], o, L, xs, h, k => by
  simp [flatFs] at h
  subst h
  exact ⟨(), by simp [envT, RdL], trivial, Nat.zero_le _⟩
 | f :: fs, o, L, xs, h, k => by
  simp only [List.map_cons, flatFs] at h
  split at h
  case h_2 => cases h
  rename_i A hd hA
  have hd := of_decide_eq_true hd
  split at h
  case h_2 => cases h
  rename_i M hM
  simp only [Option.some.injEq] at h
  subst h
  rw [List.mapM_cons] at k
  cases hx : DataW.trod en P w 0 (fun _ => true) true fuel f.type ((cs.drop f.offset).take (P.cellsOf f.type)) with
  | none => rw [hx] at k; cases k
  | some x =>
   rw [hx] at k
   cases hr : fs.mapM (fun f => DataW.trod en P w 0 (fun _ => true) true fuel f.type ((cs.drop f.offset).take (P.cellsOf f.type))) with
   | none => rw [hr] at k; cases k
   | some r =>
    rw [hr] at k
    have k : x :: r = xs := by simpa using k
    subst k
    obtain ⟨g1, a1, a2, a3⟩ := ih _ _ _ _ hA hx
    obtain ⟨g2, b1, b2, b3⟩ := flat_fields ih fs _ _ _ hM hr
    refine ⟨appG A M g1 g2, ?_, wfL_app _ _ _ _ a2 b2, ?_⟩
    . rw [envT_app, List.length_append, List.take_add, List.drop_drop]
      rw [hd, take_len (by rw [<- a1.len, envT_len])] at a1
      exact a1.append b1
    . rw [bkL_app]
      simp only [List.map_cons, Rows.uptoBulkAll]
      omega
theorem flat_arr {fuel e k : Nat} {F : TypeId -> Option (List Lf)} {cs : List Value}
  (ih : ∀ t L cs x, F t = some L -> DataW.trod en P w 0 (fun _ => true) true fuel t cs = some x -> ∃ g : prodL L, RdL w (envT L g) cs /\ wfL L g /\ bkL L g <= Rows.uptoBulk x.1) :
  ∀ (n i0 o : Nat) (L : List Lf) (ys : List (DataW H × List MemPlace)), flatFs F o ((List.range' i0 n).map fun i => (i * k, e)) = some L -> ys.length = n -> (∀ j, j < n -> DataW.trod en P w 0 (fun _ => true) true fuel e ((cs.drop ((i0 + j) * k)).take k) = ys[j]?) ->
   ∃ g : prodL L, RdL w (envT L g) ((cs.drop o).take L.length) /\ wfL L g /\ bkL L g <= Rows.uptoBulkAll (ys.map (·.1))
 | 0, _, o, L, ys, h, _, _ => by
  simp [flatFs] at h
  subst h
  exact ⟨(), by simp [envT, RdL], trivial, Nat.zero_le _⟩
 | n + 1, i0, o, L, ys, h, hl, hy => by
  simp only [List.range'_succ, List.map_cons, flatFs] at h
  split at h
  case h_2 => cases h
  rename_i A hd hA
  have hd := of_decide_eq_true hd
  split at h
  case h_2 => cases h
  rename_i M hM
  simp only [Option.some.injEq] at h
  subst h
  cases ys with
  | nil => simp at hl
  | cons x r =>
   have hx := hy 0 (Nat.zero_lt_succ n)
   simp only [Nat.add_zero, List.getElem?_cons_zero] at hx
   obtain ⟨g1, a1, a2, a3⟩ := ih _ _ _ _ hA hx
   obtain ⟨g2, b1, b2, b3⟩ := flat_arr ih n (i0 + 1) (o + A.length) M r hM (by simpa using hl) fun j hj => by
    have := hy (j + 1) (by omega)
    rw [List.getElem?_cons_succ] at this
    rw [<- this, show i0 + (j + 1) = i0 + 1 + j by omega]
   refine ⟨appG A M g1 g2, ?_, wfL_app _ _ _ _ a2 b2, ?_⟩
   . rw [envT_app, List.length_append, List.take_add, List.drop_drop]
     rw [hd, take_len (by rw [<- a1.len, envT_len])] at a1
     exact a1.append b1
   . rw [bkL_app]
     simp only [List.map_cons, Rows.uptoBulkAll]
     omega
theorem sum_bulk {e : El} : ∀ (l : List (ty e)) (ds : List (DataW H)), l.length = ds.length -> (∀ (i : Nat) (x : ty e) (d : DataW H), l[i]? = some x -> ds[i]? = some d -> bk e x <= Rows.uptoBulk d) -> (l.map (bk e)).sum <= Rows.uptoBulkAll ds
 | [], _, _, _ => by simp
 | x :: l, [], h, _ => by simp at h
 | x :: l, d :: ds, h, k => by
  have h1 := k 0 x d rfl rfl
  have h2 := sum_bulk l ds (by simpa using h) fun i y d hy hd => k (i + 1) y d (by simpa using hy) (by simpa using hd)
  simp only [List.map_cons, List.sum_cons, Rows.uptoBulkAll]
  omega
theorem flat_elems {fuel : Nat} {e : TypeId} {te : TI} {k : El} (hD : TDok P D) (he : tyOf D e = some te) (hk : te.el = some k) (hflat : ∃ m, flatL D m e = some (lvs k))
  (ih : ∀ m t L cs x, flatL D m t = some L -> DataW.trod en P w 0 (fun _ => true) true fuel t cs = some x -> ∃ g : prodL L, RdL w (envT L g) cs /\ wfL L g /\ bkL L g <= Rows.uptoBulk x.1)
  {a : Addr} {len cap : Nat} {elems : List (DataW H × List MemPlace)} (h1 : len <= cap) (h2 : cap <= maxLen)
  (h : (List.range len).mapM (fun i => (w.cells? 0 (a.add (i * P.cellsOf e)) (P.cellsOf e)).bind (DataW.trod en P w 0 (fun _ => true) true fuel e)) = some elems) :
  ∃ l : List (ty k), Rd w (.sl false k l) (.slice (some a) len cap) /\ (∀ x ∈ l, wfE k x) /\ (l.map (bk k)).sum <= Rows.uptoBulkAll (elems.map (·.1)) := by
 obtain ⟨m, hflat⟩ := hflat
 have hsz : P.cellsOf e = sz k := by rw [cellsOf_ti (hD _ _ he), ((hD _ _ he).el _ hk).1]
 rw [hsz] at h
 obtain ⟨e1, e2⟩ := mapM_get h
 simp only [List.length_range] at e1
 obtain ⟨l, l1, l2⟩ := exists_list (p := fun j (x : ty k) => wfE k x /\ (∀ d, elems[j]? = some d -> bk k x <= Rows.uptoBulk d.1) /\ ∀ q u, (enc k x)[q]? = some u -> ∃ v, w.cell? ((a.add (j * sz k)).add q) = some v /\ Rd w u v) len (fun j hj => by
  have hje : j < elems.length := by omega
  have := e2 j j elems[j] (by simp [hj]) (List.getElem?_eq_getElem hje)
  obtain ⟨cs, c1, c2⟩ := Option.bind_eq_some_iff.1 this
  obtain ⟨g, g1, g2, g3⟩ := ih m e _ cs _ hflat c2
  obtain ⟨d1, d2⟩ := cells_at c1
  refine ⟨mkE k g, wf_mk k g g2, fun d hd => ?_, fun q u hq => ?_⟩
  . rw [List.getElem?_eq_getElem hje] at hd
    injection hd with hd
    subst hd
    rw [bk_mk]; exact g3
  . rw [enc_mk] at hq
    have hq' : q < cs.length := by rw [<- g1.len]; exact (List.getElem?_eq_some_iff.1 hq).1
    exact ⟨cs[q], d2 q _ (List.getElem?_eq_getElem hq'), g1.get q u _ hq (List.getElem?_eq_getElem hq')⟩)
 refine ⟨l, ?_, fun x hx => ?_, sum_bulk _ _ (by simp [l1, e1]) fun i x d hx hd => ?_⟩
 . by_cases h0 : len = 0
   . subst h0
     have : l = [] := List.eq_nil_of_length_eq_zero l1
     subst this
     exact .sl0 _ _ _ h2
   have hp := sz_pos k
   -- the first element is there: the address has no spot, its block is of cells
   have hl0 : 0 < l.length := by omega
   have henc0 : 0 < (enc k l[0]).length := by rw [enc_len]; exact hp
   obtain ⟨v0, hv0, _⟩ := (l2 0 l[0] (List.getElem?_eq_getElem hl0)).2.2 0 _ (List.getElem?_eq_getElem henc0)
   obtain ⟨b, off, spot⟩ := a
   have hadd0 : ((Addr.add ⟨b, off, spot⟩ (0 * sz k)).add 0) = ⟨b, off, spot⟩ := by simp [Addr.add]
   rw [hadd0] at hv0
   obtain ⟨blk, E, fr, hb, hs⟩ : ∃ blk E fr, w.heap[b]? = some (.cells blk E fr) /\ spot = none := by
    unfold World.cell? at hv0
    split at hv0
    . rename_i c E fr hb
      split at hv0
      . cases hv0
      . rename_i hs
        exact ⟨c, E, fr, hb, by simpa using hs⟩
    . cases hv0
   subst hs
   have hadd : ∀ i q, ((Addr.add ⟨b, off, none⟩ (i * sz k)).add q) = ⟨b, off + i * sz k + q, none⟩ := fun i q => by
    unfold Addr.add; split <;> split <;> simp_all
   have hcell : ∀ i x q u, l[i]? = some x -> (enc k x)[q]? = some u -> ∃ v, blk[off + i * sz k + q]? = some v /\ Rd w u v := fun i x q u hi hq => by
    obtain ⟨v, v1, v2⟩ := (l2 i x hi).2.2 q u hq
    rw [hadd] at v1
    simp [World.cell?, hb] at v1
    exact ⟨v, v1, v2⟩
   have hlen : off + l.length * sz k <= blk.size := by
    have hlast : l.length - 1 < l.length := by omega
    have hq : sz k - 1 < (enc k l[l.length - 1]).length := by rw [enc_len]; omega
    obtain ⟨v, v1, _⟩ := hcell _ _ _ _ (List.getElem?_eq_getElem hlast) (List.getElem?_eq_getElem hq)
    have := (Array.getElem?_eq_some_iff.1 v1).1
    have e : l.length * sz k = (l.length - 1) * sz k + sz k := by
     rw [<- Nat.succ_mul]; congr 1; omega
    omega
   have hR : Rd w (.sl false k l) (.slice (some ⟨b, off, none⟩) l.length cap) := by
    refine .sl k l b off (List.replicate off .undef ++ encs k l) cap (by omega) h2 (.mk _ _ blk E fr hb (fun n e => ?_) (by simp [encs_len]; omega) fun j u x hj hx hpu => ?_) ?_
    . have hm : (T.tu [.int .i64 (n : Int)]) ∈ List.replicate off T.undef ++ encs k l := by rw [e]; simp
      rcases List.mem_append.1 hm with hm | hm
      . have := (List.mem_replicate.1 hm).2; cases this
      . have := encs_pure _ hm; simp [T.pure1] at this
    . by_cases hjo : j < off
      . rw [List.getElem?_append_left (by simpa using hjo)] at hj
        simp [List.getElem?_replicate, hjo] at hj
        subst hj
        simp [T.pure1] at hpu
      . rw [List.getElem?_append_right (by simpa using Nat.le_of_not_lt hjo)] at hj
        simp only [List.length_replicate] at hj
        obtain ⟨i, q, y, hJ, _, hy, hu⟩ := encs_split hj
        obtain ⟨v, v1, v2⟩ := hcell i y q u hy hu
        have : off + i * sz k + q = j := by omega
        rw [this, hx] at v1
        injection v1 with v1
        subst v1
        exact v2
    . rw [List.drop_left' (by simp), <- encs_len]
      exact List.take_length
   rw [l1] at hR
   exact hR
 . obtain ⟨i, hi⟩ := List.mem_iff_getElem?.1 hx
   exact (l2 i x hi).1
 . simp only [List.getElem?_map, Option.map_eq_some_iff] at hd
   obtain ⟨d', hd', rfl⟩ := hd
   exact (l2 i x hx).2.1 d' hd'
theorem trod_flat (hD : TDok P D) (hK : KindsOk D) : ∀ (fuel m : Nat) (t : TypeId) (L : List Lf) (cs : List Value) (x : DataW H × List MemPlace), flatL D m t = some L -> DataW.trod en P w 0 (fun _ => true) true fuel t cs = some x ->
  ∃ g : prodL L, RdL w (envT L g) cs /\ wfL L g /\ bkL L g <= Rows.uptoBulk x.1
 | 0, _, _, _, _, _, _, h => by simp [DataW.trod] at h
 | fuel + 1, 0, _, _, _, _, h, _ => by simp [flatL] at h
 | fuel + 1, m + 1, t, L, cs, x, hf, h => by
  simp only [flatL] at hf
  split at hf
  case h_2 => cases hf
  rename_i ti hti
  obtain ⟨d, hu, _, hs⟩ := (hD _ _ hti).under
  have hc := cellsOf_ti (hD _ _ hti)
  have h0 := h
  unfold DataW.trod at h
  rw [hu] at h
  split at hf
  case h_1 k hk =>
   rw [hk] at hs
   subst hs
   injection hf with hf
   subst hf
   split at h <;> first | (cases h; done) | (rename_i ed; cases ed; done) | (rename_i ed; cases ed)
   split at h
   . rename_i hh
     obtain ⟨rfl, hw⟩ := hh
     injection h with h
     subst h
     simp only [Lit.wf, Bool.and_eq_true, decide_eq_true_eq] at hw
     exact ⟨(_, ()), ⟨.int _ _, trivial⟩, ⟨hw, trivial⟩, by simp [bkL, Rows.uptoBulk]⟩
   . cases h
  case h_2 hk =>
   rw [hk] at hs
   subst hs
   injection hf with hf
   subst hf
   split at h <;> first | (cases h; done) | (rename_i ed; cases ed; done) | (rename_i ed; cases ed)
   injection h with h
   subst h
   exact ⟨(_, ()), ⟨.bool _, trivial⟩, trivial, by simp [bkL, Rows.uptoBulk]⟩
  case h_3 hk =>
   rw [hk] at hs
   subst hs
   injection hf with hf
   subst hf
   split at h <;> first | (cases h; done) | (rename_i ed; cases ed; done) | (rename_i ed; cases ed)
   split at h
   . injection h with h
     subst h
     exact ⟨(_, ()), ⟨.str _, trivial⟩, trivial, by simp [bkL, Rows.uptoBulk]⟩
   . cases h
  case h_4 e hk =>
   rw [hk] at hs
   obtain ⟨rfl, _⟩ := hs
   split at hf
   case h_2 => cases hf
   rename_i te hte
   split at hf
   case h_2 => cases hf
   rename_i k hel
   injection hf with hf
   subst hf
   split at h <;> first | (cases h; done) | (rename_i ed; cases ed; done) | (rename_i ed; cases ed)
   . injection h with h
     subst h
     exact ⟨([], ()), ⟨.sl0 _ _ _ (Nat.zero_le _), trivial⟩, ⟨by simp, trivial⟩, by simp [bkL, Rows.uptoBulk]⟩
   . split at h
     case isFalse => cases h
     rename_i hh
     obtain ⟨_, h1, h2⟩ := hh
     obtain ⟨elems, c1, c2⟩ := Option.bind_eq_some_iff.1 h
     obtain ⟨l, l1, l2, l3⟩ := flat_elems hD hte hel (hK _ _ _ hte hel) (fun m t L cs x => trod_flat hD hK fuel m t L cs x) h1 h2 c1
     refine ⟨(l, ()), ⟨l1, trivial⟩, ⟨l2, trivial⟩, ?_⟩
     obtain ⟨rest, _, rfl⟩ := Option.map_eq_some_iff.1 c2
     simp only [bkL, Rows.uptoBulk]
     omega
  case h_5 fs hk =>
   rw [hk] at hs
   obtain ⟨fields, rfl, rfl, _⟩ := hs
   split at hf
   case h_2 => cases hf
   rename_i L' hL
   split at hf
   case h_2 => cases hf
   rename_i hd
   have hd := of_decide_eq_true hd
   injection hf with hf
   subst hf
   split at h <;> first | (cases h; done) | (simp at h; done) | (exfalso; simp_all; done) | (rename_i ed; cases ed; done) | (rename_i ed; cases ed)
   split at h
   case isFalse => cases h
   rename_i hlen
   obtain ⟨xs, c1, rfl⟩ := Option.map_eq_some_iff.1 h
   obtain ⟨g, a1, a2, a3⟩ := flat_fields (fun t L cs x => trod_flat hD hK fuel m t L cs x) fields.toList 0 _ xs hL c1
   refine ⟨g, ?_, a2, ?_⟩
   . rw [List.drop_zero, List.take_of_length_le (by omega)] at a1
     exact a1
   . simp only [Rows.uptoBulk]
     omega
  case h_6 m' e hk =>
   rw [hk] at hs
   simp only [srtOk] at hs
   subst hs
   clear h
   split at hf
   case h_2 => cases hf
   rename_i te hte
   split at hf
   case h_2 => cases hf
   rename_i L' hL
   split at hf
   case h_2 => cases hf
   rename_i hd
   have hd := of_decide_eq_true hd
   injection hf with hf
   subst hf
   obtain ⟨xs, fu, e1, rfl, hlen, hn, hel⟩ := DataW.trod_array hu h0
   obtain rfl : fuel = fu := by omega
   have hce := cellsOf_ti (hD _ _ hte)
   obtain ⟨g, a1, a2, a3⟩ := flat_arr (fun t L cs x => trod_flat hD hK fuel m t L cs x) m' 0 0 _ xs hL hn fun j hj => by
    have := hel j hj
    rw [hce] at this
    rw [Nat.zero_add]
    exact this
   refine ⟨g, ?_, a2, ?_⟩
   . rw [List.drop_zero, List.take_of_length_le (by omega)] at a1
     exact a1
   . simp only [Rows.uptoBulk]
     omega
  case h_7 => cases hf
end
end Go.Proofs.YtoclmkbjgmgekaaGreatDoor
namespace Go.Proofs.YtoclmkbjgmgekaaGreatDoor
open Go.RowKit Go.ChangeShapes
variable {P : Program}
def parL (D : TD) : List TypeId -> Option (List Lf)
 | [] => some []
 | t :: r => match flatL D 8 t, parL D r with
  | some L, some M => some (L ++ M)
  | _, _ => none
def shOf (D : TD) (t : TypeId) : Sh := match tyOf D t with
 | some ti => match ti.agg with
  | true => .ag (List.replicate ti.size .leaf)
  | false => .leaf
 | none => .any
def shTs (D : TD) : List TypeId -> List Sh
 | [] => []
 | t :: r => shOf D t :: shTs D r
theorem bld_leaves : ∀ (us rest : List T), bldL (List.replicate us.length .leaf) (us ++ rest) = (us, rest)
 | [], rest => by simp [bldL]
 | u :: us, rest => by simp [List.replicate_succ, bldL, bld, bld_leaves us rest]
section
variable {P : Program} {D : TD} {w : World} {H : Type} {en : TypeId × Value -> H}
theorem flat_one (hD : TDok P D) {t : TypeId} {L : List Lf} {m base : Nat} {v : Value} {d : DataW H} {ps : List MemPlace} {g : prodL L} (hf : flatL D m t = some L) (hok : Value.okWide P w .any base t v) (hr : RdL w (envT L g) v.cells.toList) :
  ∀ rest, (bld (shOf D t) (envT L g ++ rest)).2 = rest /\ R (g0 P w) (bld (shOf D t) (envT L g ++ rest)).1 v := by
 intro rest
 cases m with
 | zero => simp [flatL] at hf
 | succ m =>
 simp only [flatL] at hf
 split at hf
 case h_2 => cases hf
 rename_i ti hti
 obtain ⟨dd, hu, ha, hs⟩ := (hD _ _ hti).under
 unfold shOf
 rw [hti]
 unfold Value.okWide at hok
 rw [hu] at hok
 have one : ∀ {a : Lf}, L = [a] -> v.cells = #[v] -> aggDesc dd = false -> (bld (match ti.agg with | true => Sh.ag (List.replicate ti.size Sh.leaf) | false => Sh.leaf) (envT L g ++ rest)).2 = rest /\ R (g0 P w) (bld (match ti.agg with | true => Sh.ag (List.replicate ti.size Sh.leaf) | false => Sh.leaf) (envT L g ++ rest)).1 v := by
  intro a hL hv hag
  subst hL
  rw [<- ha, hag]
  rw [hv] at hr
  exact ⟨rfl, hr.1.R.1⟩
 split at hf
 case h_1 k hk =>
  rw [hk] at hs; subst hs
  injection hf with hf
  refine one hf.symm ?_ rfl
  cases v <;> first | rfl | (simp [Cell.okWide, Cell.ok, hu] at hok)
 case h_2 hk =>
  rw [hk] at hs; subst hs
  injection hf with hf
  refine one hf.symm ?_ rfl
  cases v <;> first | rfl | (simp [Cell.okWide, Cell.ok, hu] at hok)
 case h_3 hk =>
  rw [hk] at hs; subst hs
  injection hf with hf
  refine one hf.symm ?_ rfl
  cases v <;> first | rfl | (simp [Cell.okWide, Cell.ok, hu] at hok)
 case h_4 e hk =>
  rw [hk] at hs
  obtain ⟨rfl, _⟩ := hs
  split at hf
  case h_2 => cases hf
  split at hf
  case h_2 => cases hf
  injection hf with hf
  refine one hf.symm ?_ rfl
  cases v <;> first | rfl | (simp [Cell.okWide, Cell.ok, hu] at hok)
 case h_5 fs hk =>
  rw [hk] at hs
  obtain ⟨fields, rfl, rfl, _⟩ := hs
  split at hf
  case h_2 => cases hf
  split at hf
  case h_2 => cases hf
  rename_i hd
  have hd := of_decide_eq_true hd
  injection hf with hf
  subst hf
  obtain ⟨cs, rfl, _, _⟩ := hok
  dsimp only
  rw [<- ha]
  have hlen := envT_len _ g
  have hb := bld_leaves (envT _ g) rest
  rw [hlen, hd] at hb
  simp only [aggDesc, bld, hb, true_and]
  have hr : RdL w (envT _ g) cs.toList := hr
  refine .ag _ _ (by simpa using hr.len) (fun i c x hc hx => (hr.get i c x hc (by simpa using hx)).R.1) fun i x hx => ?_
  have hi : i < (envT _ g).length := by rw [hr.len]; simpa using (Array.getElem?_eq_some_iff.1 hx).1
  exact ((hr.get i _ x (List.getElem?_eq_getElem hi) (by simpa using hx)).R (P := P)).2
 case h_6 m' e hk =>
  rw [hk] at hs
  simp only [srtOk] at hs
  subst hs
  split at hf
  case h_2 => cases hf
  split at hf
  case h_2 => cases hf
  split at hf
  case h_2 => cases hf
  rename_i hd
  have hd := of_decide_eq_true hd
  injection hf with hf
  subst hf
  obtain ⟨cs, rfl, _, _⟩ := hok
  rw [<- ha]
  have hlen := envT_len _ g
  have hb := bld_leaves (envT _ g) rest
  rw [hlen, hd] at hb
  simp only [aggDesc, bld, hb, true_and]
  have hr : RdL w (envT _ g) cs.toList := hr
  refine .ag _ _ (by simpa using hr.len) (fun i c x hc hx => (hr.get i c x hc (by simpa using hx)).R.1) fun i x hx => ?_
  have hi : i < (envT _ g).length := by rw [hr.len]; simpa using (Array.getElem?_eq_some_iff.1 hx).1
  exact ((hr.get i _ x (List.getElem?_eq_getElem hi) (by simpa using hx)).R (P := P)).2
 case h_7 => cases hf
theorem flat_args (hD : TDok P D) (hK : KindsOk D) {base : Nat} : ∀ (ts : List TypeId) (L : List Lf) (args : List Value) (ds : List (DataW H)) (ps : List MemPlace), parL D ts = some L -> DataW.TrodAll en P w 0 (fun _ => true) true ts args ds ps ->
  (∀ (j : Nat) t v, ts[j]? = some t -> args[j]? = some v -> Value.okWide P w .any base t v) ->
  ∃ g : prodL L, (∀ rest, (bldL (shTs D ts) (envT L g ++ rest)).1.length = args.length /\ ∀ (i : Nat) (u : T) (x : Value), (bldL (shTs D ts) (envT L g ++ rest)).1[i]? = some u -> args[i]? = some x -> R (g0 P w) u x) /\ wfL L g /\ bkL L g <= Rows.uptoBulkAll ds
 | [], L, args, ds, ps, hf, ht, _ => by
  obtain ⟨rfl, rfl, rfl⟩ := trodAll_nil ht
  simp [parL] at hf
  subst hf
  exact ⟨(), fun rest => ⟨by simp [shTs, bldL], by simp⟩, trivial, Nat.zero_le _⟩
 | t :: ts, L, args, ds, ps, hf, ht, hok => by
  obtain ⟨v, vs, d, ds', p, q, rfl, rfl, rfl, h1, h2⟩ := trodAll_cons ht
  simp only [parL] at hf
  split at hf
  case h_2 => cases hf
  rename_i A B hA hB
  injection hf with hf
  subst hf
  obtain ⟨fuel, h1⟩ := h1
  obtain ⟨g1, a1, a2, a3⟩ := trod_flat hD hK fuel 8 t A _ _ hA h1
  obtain ⟨g2, b1, b2, b3⟩ := flat_args hD hK ts B vs ds' q hB h2 fun j t v h h' => hok (j + 1) t v (by simpa using h) (by simpa using h')
  have hone := flat_one (ps := p) (d := d) hD hA (hok 0 t v rfl rfl) a1
  refine ⟨appG A B g1 g2, fun rest => ?_, wfL_app _ _ _ _ a2 b2, ?_⟩
  . rw [envT_app, List.append_assoc]
    simp only [shTs, bldL]
    obtain ⟨c1, c2⟩ := hone (envT B g2 ++ rest)
    rw [c1]
    obtain ⟨e1, e2⟩ := b1 rest
    refine ⟨by simp [e1], fun i u x hu hx => ?_⟩
    cases i with
    | zero => simp at hu hx; subst hu; subst hx; exact c2
    | succ i => simp at hu hx; exact e2 i u x hu hx
  . rw [bkL_app]
    have a3 : bkL A g1 <= Rows.uptoBulk d := a3
    simp only [Rows.uptoBulkAll]
    omega
theorem trodAll_carry {w' : World} {sp : Nat -> Bool} {hd : Bool} : ∀ {ts : List TypeId} {vs : List Value} {ds : List (DataW H)} {ps : List MemPlace}, DataW.TrodAll en P w 0 sp hd ts vs ds ps -> (∀ p ∈ ps, w.sameAt w' p) -> DataW.TrodAll en P w' 0 sp hd ts vs ds ps
 | [], _, _, _, h, _ => by
  obtain ⟨rfl, rfl, rfl⟩ := trodAll_nil h
  rfl
 | t :: ts, _, _, _, h, hs => by
  obtain ⟨v, vs, d, ds', p, q, rfl, rfl, rfl, ⟨n, h1⟩, h2⟩ := trodAll_cons h
  exact ⟨p, q, ⟨n, DataW.trod_carry n _ _ _ h1 fun x hx => hs x (List.mem_append_left _ hx)⟩, trodAll_carry h2 fun x hx => hs x (List.mem_append_right _ hx), rfl⟩
theorem step_kept {g' : G P} {st' : St} {w' : World} {b0 : B0} (h : Step b0 (g0 P w) [] w g' st' w') : (∀ b, b < w.heap.size -> w'.heap[b]? = w.heap[b]?) := fun b hb => h.block b hb fun ⟨k, o, ho, _⟩ => by simp at ho
theorem kept_of {w' : World} (h1 : w'.os = w.os) (h2 : w'.output = w.output) (h : ∀ b, b < w.heap.size -> w'.heap[b]? = w.heap[b]?) (may : MemPlace -> Prop) : w.keptBut w' may := by
 refine ⟨h1, h2, fun i hi => ?_⟩
 rw [h i hi]
 split
 . rename_i e1 e2
   rw [e1] at e2
   simp only [Option.some.injEq, Obj.cells.injEq] at e2
   obtain ⟨rfl, rfl, rfl⟩ := e2
   exact ⟨rfl, rfl, rfl, fun _ _ => rfl⟩
 . rename_i e1 e2
   rw [e1] at e2
   simp only [Option.some.injEq, Obj.map.injEq] at e2
   exact .inr ⟨e2.1.symm, e2.2.symm⟩
 . rfl
theorem law_contract (hD : TDok P D) (hK : KindsOk D) (kids : Kids P (· < P.types.size)) (full : ∀ t e, t < P.types.size -> P.underlying t = some (.slice e) -> 0 < P.cellsOf e) {f : FuncId} {fn : Func} {s : ChangeSpec} {tb : TypeId}
  (hvars : s.vars = []) (hfn : ∀ ds : List (DataW H), ds.length = fn.params.size -> s.fn H ds = { results := [.lit (.bool true)], args := ds }) (hres : fn.resultTypes = #[tb]) (htb : P.underlying tb = some .bool) (hts : ∀ t ∈ fn.params.toList, t < P.types.size)
  {L : List Lf} {S : List Sh} (hL : parL D fn.params.toList = some L) (hS : shTs D fn.params.toList = S)
  {base : Nat} {args : Array Value} {ds gs : List (DataW H)} {before : List MemPlace} (hF : ∀ g : prodL L, wfL L g -> bkL L g <= Rows.uptoBulkAll (ds ++ gs) -> FCalls P f (argsT S L g) [] (fun r _ => r = .bool true) fun _ _ => False)
  (hval : ∀ (j : Nat) t v, fn.params[j]? = some t -> args[j]? = some v -> Value.okWide P w .any base t v) (hW : DataW.Whole en P fn.params.toList s.vars false w args.toList ds gs before) (hy : ytab f = none := by rfl) (hlaid : LaidG (RdB w) := by trivial) :
  Calls P f args w fun e w' => ∃ v, e = .returned v /\ s.post en P fn false true false false w args v w' := by
 have hW' := hW
 obtain ⟨p, q, hA, hV, hpq, hfz, hnd⟩ := hW
 rw [hvars] at hV
 obtain ⟨rfl, rfl⟩ := trodVars_none hV
 rw [List.append_nil] at hpq
 subst hpq
 simp only [List.append_nil] at hF
 obtain ⟨g, r1, r2, r3⟩ := flat_args (base := base) hD hK _ _ _ _ _ hL hA fun j t v h h' => hval j t v (by simpa using h) (by simpa using h')
 have hc := hF g r2 r3 (g0 P w) w (good0 w hlaid)
 unfold Atc at hc
 rw [hy] at hc
 replace hc := hc.2 args
 have hargs : RL (g0 P w) (argsT S L g) args := by
  obtain ⟨a1, a2⟩ := r1 []
  rw [List.append_nil, hS] at a1 a2
  exact ⟨by simpa [argsT] using a1, fun i u x hu hx => a2 i u x hu (by simpa using hx)⟩
 have hlen : ds.length = fn.params.size := by
  have : ∀ {ts : List TypeId} {vs : List Value} {ds : List (DataW H)} {ps : List MemPlace}, DataW.TrodAll en P w 0 (fun _ => true) true ts vs ds ps -> ds.length = ts.length := by
   intro ts
   induction ts with
   | nil => intro vs ds ps h; obtain ⟨_, rfl, _⟩ := trodAll_nil h; rfl
   | cons t ts ih =>
    intro vs ds ps h
    obtain ⟨v, vs, d, ds', p, q, rfl, rfl, rfl, _, h2⟩ := trodAll_cons h
    simp [ih h2]
  simpa using this hA
 refine (hc hargs).mono fun e w' ⟨g', st', _, h2, h3⟩ => ?_
 cases e with
 | returned x =>
  obtain ⟨r, rfl, hx⟩ := h3
  cases hx
  have hsame := step_kept h2
  have hsat : ∀ p ∈ before, w.sameAt w' p := fun x hx => by
   have hlt := hW'.lt x hx
   cases x with
   | cell b off => simp only [World.sameAt, World.cell?]; rw [hsame b hlt]
   | map b => exact hsame b hlt
  refine ⟨_, rfl, ds, [], before, [], before, [], hW', ?_, ?_, ?_, kept_of h2.os h2.output hsame _ |> World.keptBut_mono (fun x hx => hx), fun h => by cases h⟩
  . rw [List.append_nil, hfn ds hlen, hres]
    exact trodAll_mk1 (shut_bool htb _)
  . rw [List.append_nil, hfn ds hlen]
    have := DataW.TrodAll.respare (spare' := fun b => decide (b < w.heap.size)) kids (fun t e ht => full t e ht) hts hA fun x hx => by simpa using hW'.lt x hx
    exact trodAll_carry this hsat
  . rw [hvars, List.append_nil, hfn ds hlen]; rfl
 | panicked ch => obtain ⟨_, _, _, h, _⟩ := h3; exact h.elim
 | outgrown => exact h3.elim
end
theorem td0 {P : Program} : TDok P [] := fun t ti h => by cases h
theorem tdc {P : Program} {t : TypeId} {ti : TI} {D : TD} (h : TIok P t ti) (hD : TDok P D) : TDok P ((t, ti) :: D) := fun t' ti' e => by
 rw [tyOf] at e
 split at e
 . rename_i q; subst q; cases e; exact h
 . exact hD _ _ e
theorem gm0 {P : Program} : ∀ p ∈ ([] : List (FuncId × Bool × Sp)), p.2.2.Ok P p.1 p.2.1 := fun p h => by cases h
theorem gmc {P : Program} {f : FuncId} {b : Bool} {c : Sp} {l : List (FuncId × Bool × Sp)} (h : c.Ok P f b) (hl : ∀ p ∈ l, p.2.2.Ok P p.1 p.2.1) : ∀ p ∈ (f, b, c) :: l, p.2.2.Ok P p.1 p.2.1 := by
 intro p hp
 rcases List.mem_cons.1 hp with rfl | hp
 . exact h
 . exact hl p hp
theorem gmX {P : Program} {l : List (FuncId × Bool × Sp)} (h : ∀ p ∈ l, p.2.2.Ok P p.1 p.2.1) : GamOk P (gamX [] l) := gamX_ok (fun p h => by cases h) h
end Go.Proofs.YtoclmkbjgmgekaaGreatDoor
namespace Go.Proofs.YtoclmkbjgmgekaaGreatDoor
open Go.RowKit
set_option maxRecDepth 100000
def ti1 : TI := ⟨false, 1, 8, .other, none, none, none⟩
theorem ti1_ok : TIok Tryz.prog 1 ti1 := TIok.none Tryz.underlying1 Tryz.type1 rfl trivial rfl rfl rfl (fun _ h => by cases h) (fun _ h => by cases h) rfl
def ti2 : TI := ⟨false, 1, 8, .int .i64, some [.int .i64 0], none, none⟩
theorem ti2_ok : TIok Tryz.prog 2 ti2 := TIok.agg Tryz.underlying2 Tryz.type2 rfl rfl rfl rfl rfl rfl rfl rfl rfl (fun h => by first | rfl | (cases h; done)) (fun _ h => by cases h) (fun _ h => by cases h) (fun _ h => by cases h)
def ti3 : TI := ⟨false, 1, 8, .int .i64, some [.int .i64 0], none, none⟩
theorem ti3_ok : TIok Tryz.prog 3 ti3 := TIok.agg Tryz.underlying3 Tryz.type3 rfl rfl rfl rfl rfl rfl rfl rfl rfl (fun h => by first | rfl | (cases h; done)) (fun _ h => by cases h) (fun _ h => by cases h) (fun _ h => by cases h)
def ti4 : TI := ⟨false, 1, 1, .bool, some [.bool false], none, none⟩
theorem ti4_ok : TIok Tryz.prog 4 ti4 := TIok.agg Tryz.underlying4 Tryz.type4 rfl rfl rfl rfl rfl rfl rfl rfl rfl (fun h => by first | rfl | (cases h; done)) (fun _ h => by cases h) (fun _ h => by cases h) (fun _ h => by cases h)
def ti5 : TI := ⟨false, 1, 1, .int .u8, some [.int .u8 0], some .u8, none⟩
theorem ti5_ok : TIok Tryz.prog 5 ti5 := TIok.agg Tryz.underlying5 Tryz.type5 rfl rfl rfl rfl rfl rfl rfl rfl rfl (fun h => by first | rfl | (cases h; done)) (fun e h => by cases h; exact ⟨rfl, by decide⟩) (fun e h => by cases h; rfl) (fun _ h => by cases h)
def ti6 : TI := ⟨false, 1, 1, .int .u8, some [.int .u8 0], none, none⟩
theorem ti6_ok : TIok Tryz.prog 6 ti6 := TIok.agg Tryz.underlying6 Tryz.type6 rfl rfl rfl rfl rfl rfl rfl rfl rfl (fun h => by first | rfl | (cases h; done)) (fun _ h => by cases h) (fun _ h => by cases h) (fun _ h => by cases h)
def ti7 : TI := ⟨true, 4, 24, .struct [(0, 2), (1, 3), (2, 4), (3, 6)], some [.int .i64 0, .int .i64 0, .bool false, .int .u8 0], none, none⟩
theorem ti7_ok : TIok Tryz.prog 7 ti7 := TIok.agg Tryz.underlying7 Tryz.type7 rfl (⟨_, rfl, rfl, by simp [show Tryz.prog.info? 2 = some Tryz.t2 from Tryz.type2, show Tryz.prog.info? 3 = some Tryz.t3 from Tryz.type3, show Tryz.prog.info? 4 = some Tryz.t4 from Tryz.type4, show Tryz.prog.info? 6 = some Tryz.t6 from Tryz.type6]⟩) rfl rfl rfl rfl rfl rfl rfl (fun h => by first | rfl | (cases h; done)) (fun _ h => by cases h) (fun _ h => by cases h) (fun _ h => by cases h)
def ti8 : TI := ⟨true, 4, 24, .struct [(0, 2), (1, 3), (2, 4), (3, 6)], some [.int .i64 0, .int .i64 0, .bool false, .int .u8 0], none, none⟩
theorem ti8_ok : TIok Tryz.prog 8 ti8 := TIok.agg Tryz.underlying8 Tryz.type8 rfl (⟨_, rfl, rfl, by simp [show Tryz.prog.info? 2 = some Tryz.t2 from Tryz.type2, show Tryz.prog.info? 3 = some Tryz.t3 from Tryz.type3, show Tryz.prog.info? 4 = some Tryz.t4 from Tryz.type4, show Tryz.prog.info? 6 = some Tryz.t6 from Tryz.type6]⟩) rfl rfl rfl rfl rfl rfl rfl (fun h => by first | rfl | (cases h; done)) (fun _ h => by cases h) (fun _ h => by cases h) (fun _ h => by cases h)
def ti9 : TI := ⟨false, 1, 16, .string, some [.str ⟨#[]⟩], some .str, none⟩
theorem ti9_ok : TIok Tryz.prog 9 ti9 := TIok.agg Tryz.underlying9 Tryz.type9 rfl rfl rfl rfl rfl rfl rfl rfl rfl (fun h => by first | rfl | (cases h; done)) (fun e h => by cases h; exact ⟨rfl, by decide⟩) (fun e h => by cases h; rfl) (fun _ h => by cases h)
def ti10 : TI := ⟨false, 1, 16, .string, some [.str ⟨#[]⟩], none, none⟩
theorem ti10_ok : TIok Tryz.prog 10 ti10 := TIok.agg Tryz.underlying10 Tryz.type10 rfl rfl rfl rfl rfl rfl rfl rfl rfl (fun h => by first | rfl | (cases h; done)) (fun _ h => by cases h) (fun _ h => by cases h) (fun _ h => by cases h)
def ti11 : TI := ⟨false, 1, 16, .string, some [.str ⟨#[]⟩], none, none⟩
theorem ti11_ok : TIok Tryz.prog 11 ti11 := TIok.agg Tryz.underlying11 Tryz.type11 rfl rfl rfl rfl rfl rfl rfl rfl rfl (fun h => by first | rfl | (cases h; done)) (fun _ h => by cases h) (fun _ h => by cases h) (fun _ h => by cases h)
def ti12 : TI := ⟨false, 1, 8, .int .u64, some [.int .u64 0], none, none⟩
theorem ti12_ok : TIok Tryz.prog 12 ti12 := TIok.agg Tryz.underlying12 Tryz.type12 rfl rfl rfl rfl rfl rfl rfl rfl rfl (fun h => by first | rfl | (cases h; done)) (fun _ h => by cases h) (fun _ h => by cases h) (fun _ h => by cases h)
def ti13 : TI := ⟨true, 2, 24, .struct [(0, 9), (1, 12)], some [.str ⟨#[]⟩, .int .u64 0], none, none⟩
theorem ti13_ok : TIok Tryz.prog 13 ti13 := TIok.agg Tryz.underlying13 Tryz.type13 rfl (⟨_, rfl, rfl, by simp [show Tryz.prog.info? 9 = some Tryz.t9 from Tryz.type9, show Tryz.prog.info? 12 = some Tryz.t12 from Tryz.type12]⟩) rfl rfl rfl rfl rfl rfl rfl (fun h => by first | rfl | (cases h; done)) (fun _ h => by cases h) (fun _ h => by cases h) (fun _ h => by cases h)
def ti14 : TI := ⟨true, 2, 24, .struct [(0, 9), (1, 12)], some [.str ⟨#[]⟩, .int .u64 0], none, none⟩
theorem ti14_ok : TIok Tryz.prog 14 ti14 := TIok.agg Tryz.underlying14 Tryz.type14 rfl (⟨_, rfl, rfl, by simp [show Tryz.prog.info? 9 = some Tryz.t9 from Tryz.type9, show Tryz.prog.info? 12 = some Tryz.t12 from Tryz.type12]⟩) rfl rfl rfl rfl rfl rfl rfl (fun h => by first | rfl | (cases h; done)) (fun _ h => by cases h) (fun _ h => by cases h) (fun _ h => by cases h)
def ti15 : TI := ⟨false, 1, 8, .other, some [.cst (.pointer none)], none, none⟩
theorem ti15_ok : TIok Tryz.prog 15 ti15 := TIok.agg Tryz.underlying15 Tryz.type15 rfl trivial rfl rfl rfl rfl rfl rfl rfl (fun h => by first | rfl | (cases h; done)) (fun _ h => by cases h) (fun _ h => by cases h) (fun _ h => by cases h)
def ti16 : TI := ⟨false, 1, 8, .other, some [.cst (.pointer none)], none, none⟩
theorem ti16_ok : TIok Tryz.prog 16 ti16 := TIok.agg Tryz.underlying16 Tryz.type16 rfl trivial rfl rfl rfl rfl rfl rfl rfl (fun h => by first | rfl | (cases h; done)) (fun _ h => by cases h) (fun _ h => by cases h) (fun _ h => by cases h)
def ti17 : TI := ⟨false, 1, 8, .other, some [.cst (.pointer none)], none, none⟩
theorem ti17_ok : TIok Tryz.prog 17 ti17 := TIok.agg Tryz.underlying17 Tryz.type17 rfl trivial rfl rfl rfl rfl rfl rfl rfl (fun h => by first | rfl | (cases h; done)) (fun _ h => by cases h) (fun _ h => by cases h) (fun _ h => by cases h)
def ti18 : TI := ⟨true, 1, 8, .struct [(0, 17)], some [.cst (.pointer none)], none, none⟩
theorem ti18_ok : TIok Tryz.prog 18 ti18 := TIok.agg Tryz.underlying18 Tryz.type18 rfl (⟨_, rfl, rfl, by simp [show Tryz.prog.info? 17 = some Tryz.t17 from Tryz.type17]⟩) rfl rfl rfl rfl rfl rfl rfl (fun h => by first | rfl | (cases h; done)) (fun _ h => by cases h) (fun _ h => by cases h) (fun _ h => by cases h)
def ti19 : TI := ⟨true, 1, 8, .struct [(0, 17)], some [.cst (.pointer none)], none, none⟩
theorem ti19_ok : TIok Tryz.prog 19 ti19 := TIok.agg Tryz.underlying19 Tryz.type19 rfl (⟨_, rfl, rfl, by simp [show Tryz.prog.info? 17 = some Tryz.t17 from Tryz.type17]⟩) rfl rfl rfl rfl rfl rfl rfl (fun h => by first | rfl | (cases h; done)) (fun _ h => by cases h) (fun _ h => by cases h) (fun _ h => by cases h)
def ti20 : TI := ⟨false, 1, 16, .iface, some [.cst .nilIface], none, none⟩
theorem ti20_ok : TIok Tryz.prog 20 ti20 := TIok.agg Tryz.underlying20 Tryz.type20 rfl (⟨_, rfl⟩) rfl rfl rfl rfl rfl rfl rfl (fun h => by first | rfl | (cases h; done)) (fun _ h => by cases h) (fun _ h => by cases h) (fun _ h => by cases h)
def ti21 : TI := ⟨false, 1, 4, .int .i32, some [.int .i32 0], none, none⟩
theorem ti21_ok : TIok Tryz.prog 21 ti21 := TIok.agg Tryz.underlying21 Tryz.type21 rfl rfl rfl rfl rfl rfl rfl rfl rfl (fun h => by first | rfl | (cases h; done)) (fun _ h => by cases h) (fun _ h => by cases h) (fun _ h => by cases h)
def ti22 : TI := ⟨false, 1, 8, .other, none, none, none⟩
theorem ti22_ok : TIok Tryz.prog 22 ti22 := TIok.none Tryz.underlying22 Tryz.type22 rfl trivial rfl rfl rfl (fun _ h => by cases h) (fun _ h => by cases h) rfl
def ti23 : TI := ⟨false, 1, 24, .slice 66, some [.nil], none, none⟩
theorem ti23_ok : TIok Tryz.prog 23 ti23 := TIok.agg Tryz.underlying23 Tryz.type23 rfl (⟨rfl, by rw [show Tryz.prog.info? 66 = some Tryz.t66 from Tryz.type66]; rfl⟩) rfl rfl rfl rfl rfl rfl rfl (fun h => by first | rfl | (cases h; done)) (fun _ h => by cases h) (fun _ h => by cases h) (fun _ h => by cases h)
def ti24 : TI := ⟨false, 1, 24, .slice 68, some [.nil], none, none⟩
theorem ti24_ok : TIok Tryz.prog 24 ti24 := TIok.agg Tryz.underlying24 Tryz.type24 rfl (⟨rfl, by rw [show Tryz.prog.info? 68 = some Tryz.t68 from Tryz.type68]; rfl⟩) rfl rfl rfl rfl rfl rfl rfl (fun h => by first | rfl | (cases h; done)) (fun _ h => by cases h) (fun _ h => by cases h) (fun _ h => by cases h)
def ti25 : TI := ⟨false, 1, 24, .slice 9, some [.nil], none, none⟩
theorem ti25_ok : TIok Tryz.prog 25 ti25 := TIok.agg Tryz.underlying25 Tryz.type25 rfl (⟨rfl, by rw [show Tryz.prog.info? 9 = some Tryz.t9 from Tryz.type9]; rfl⟩) rfl rfl rfl rfl rfl rfl rfl (fun h => by first | rfl | (cases h; done)) (fun _ h => by cases h) (fun _ h => by cases h) (fun _ h => by cases h)
def ti26 : TI := ⟨false, 1, 8, .int .i64, some [.int .i64 0], none, none⟩
theorem ti26_ok : TIok Tryz.prog 26 ti26 := TIok.agg Tryz.underlying26 Tryz.type26 rfl rfl rfl rfl rfl rfl rfl rfl rfl (fun h => by first | rfl | (cases h; done)) (fun _ h => by cases h) (fun _ h => by cases h) (fun _ h => by cases h)
def ti27 : TI := ⟨true, 4, 80, .struct [(0, 3), (1, 23), (2, 23), (3, 23)], some [.int .i64 0, .nil, .nil, .nil], none, none⟩
theorem ti27_ok : TIok Tryz.prog 27 ti27 := TIok.agg Tryz.underlying27 Tryz.type27 rfl (⟨_, rfl, rfl, by simp [show Tryz.prog.info? 3 = some Tryz.t3 from Tryz.type3, show Tryz.prog.info? 23 = some Tryz.t23 from Tryz.type23]⟩) rfl rfl rfl rfl rfl rfl rfl (fun h => by first | rfl | (cases h; done)) (fun _ h => by cases h) (fun _ h => by cases h) (fun _ h => by cases h)
def ti28 : TI := ⟨true, 4, 80, .struct [(0, 3), (1, 23), (2, 23), (3, 23)], some [.int .i64 0, .nil, .nil, .nil], none, none⟩
theorem ti28_ok : TIok Tryz.prog 28 ti28 := TIok.agg Tryz.underlying28 Tryz.type28 rfl (⟨_, rfl, rfl, by simp [show Tryz.prog.info? 3 = some Tryz.t3 from Tryz.type3, show Tryz.prog.info? 23 = some Tryz.t23 from Tryz.type23]⟩) rfl rfl rfl rfl rfl rfl rfl (fun h => by first | rfl | (cases h; done)) (fun _ h => by cases h) (fun _ h => by cases h) (fun _ h => by cases h)
def ti29 : TI := ⟨true, 12, 224, .struct [(0, 3), (1, 9), (2, 23), (3, 24), (4, 25), (5, 25), (6, 26), (7, 9), (8, 28)], some [.int .i64 0, .str ⟨#[]⟩, .nil, .nil, .nil, .nil, .int .i64 0, .str ⟨#[]⟩, .int .i64 0, .nil, .nil, .nil], none, none⟩
theorem ti29_ok : TIok Tryz.prog 29 ti29 := TIok.agg Tryz.underlying29 Tryz.type29 rfl (⟨_, rfl, rfl, by simp [show Tryz.prog.info? 3 = some Tryz.t3 from Tryz.type3, show Tryz.prog.info? 9 = some Tryz.t9 from Tryz.type9, show Tryz.prog.info? 23 = some Tryz.t23 from Tryz.type23, show Tryz.prog.info? 24 = some Tryz.t24 from Tryz.type24, show Tryz.prog.info? 25 = some Tryz.t25 from Tryz.type25, show Tryz.prog.info? 26 = some Tryz.t26 from Tryz.type26, show Tryz.prog.info? 28 = some Tryz.t28 from Tryz.type28]⟩) rfl rfl rfl rfl rfl rfl rfl (fun h => by first | rfl | (cases h; done)) (fun _ h => by cases h) (fun _ h => by cases h) (fun _ h => by cases h)
def ti30 : TI := ⟨true, 12, 224, .struct [(0, 3), (1, 9), (2, 23), (3, 24), (4, 25), (5, 25), (6, 26), (7, 9), (8, 28)], some [.int .i64 0, .str ⟨#[]⟩, .nil, .nil, .nil, .nil, .int .i64 0, .str ⟨#[]⟩, .int .i64 0, .nil, .nil, .nil], some .msg, none⟩
theorem ti30_ok : TIok Tryz.prog 30 ti30 := TIok.agg Tryz.underlying30 Tryz.type30 rfl (⟨_, rfl, rfl, by simp [show Tryz.prog.info? 3 = some Tryz.t3 from Tryz.type3, show Tryz.prog.info? 9 = some Tryz.t9 from Tryz.type9, show Tryz.prog.info? 23 = some Tryz.t23 from Tryz.type23, show Tryz.prog.info? 24 = some Tryz.t24 from Tryz.type24, show Tryz.prog.info? 25 = some Tryz.t25 from Tryz.type25, show Tryz.prog.info? 26 = some Tryz.t26 from Tryz.type26, show Tryz.prog.info? 28 = some Tryz.t28 from Tryz.type28]⟩) rfl rfl rfl rfl rfl rfl rfl (fun h => by first | rfl | (cases h; done)) (fun e h => by cases h; exact ⟨rfl, by decide⟩) (fun e h => by cases h; rfl) (fun _ h => by cases h)
def ti32 : TI := ⟨false, 1, 8, .other, none, none, none⟩
theorem ti32_ok : TIok Tryz.prog 32 ti32 := TIok.none Tryz.underlying32 Tryz.type32 rfl trivial rfl rfl rfl (fun _ h => by cases h) (fun _ h => by cases h) rfl
def ti33 : TI := ⟨false, 1, 8, .other, none, none, none⟩
theorem ti33_ok : TIok Tryz.prog 33 ti33 := TIok.none Tryz.underlying33 Tryz.type33 rfl trivial rfl rfl rfl (fun _ h => by cases h) (fun _ h => by cases h) rfl
def ti34 : TI := ⟨false, 1, 8, .other, none, none, none⟩
theorem ti34_ok : TIok Tryz.prog 34 ti34 := TIok.none Tryz.underlying34 Tryz.type34 rfl trivial rfl rfl rfl (fun _ h => by cases h) (fun _ h => by cases h) rfl
def ti36 : TI := ⟨false, 1, 8, .other, none, none, none⟩
theorem ti36_ok : TIok Tryz.prog 36 ti36 := TIok.none Tryz.underlying36 Tryz.type36 rfl trivial rfl rfl rfl (fun _ h => by cases h) (fun _ h => by cases h) rfl
def ti37 : TI := ⟨false, 1, 24, .slice 30, some [.nil], none, none⟩
theorem ti37_ok : TIok Tryz.prog 37 ti37 := TIok.agg Tryz.underlying37 Tryz.type37 rfl (⟨rfl, by rw [show Tryz.prog.info? 30 = some Tryz.t30 from Tryz.type30]; rfl⟩) rfl rfl rfl rfl rfl rfl rfl (fun h => by first | rfl | (cases h; done)) (fun _ h => by cases h) (fun _ h => by cases h) (fun _ h => by cases h)
def ti39 : TI := ⟨false, 1, 8, .other, none, none, none⟩
theorem ti39_ok : TIok Tryz.prog 39 ti39 := TIok.none Tryz.underlying39 Tryz.type39 rfl trivial rfl rfl rfl (fun _ h => by cases h) (fun _ h => by cases h) rfl
def ti40 : TI := ⟨false, 1, 24, .slice 42, some [.nil], none, none⟩
theorem ti40_ok : TIok Tryz.prog 40 ti40 := TIok.agg Tryz.underlying40 Tryz.type40 rfl (⟨rfl, by rw [show Tryz.prog.info? 42 = some Tryz.t42 from Tryz.type42]; rfl⟩) rfl rfl rfl rfl rfl rfl rfl (fun h => by first | rfl | (cases h; done)) (fun _ h => by cases h) (fun _ h => by cases h) (fun _ h => by cases h)
def ti41 : TI := ⟨true, 3, 48, .struct [(0, 4), (1, 9), (2, 40)], some [.bool false, .str ⟨#[]⟩, .nil], none, none⟩
theorem ti41_ok : TIok Tryz.prog 41 ti41 := TIok.agg Tryz.underlying41 Tryz.type41 rfl (⟨_, rfl, rfl, by simp [show Tryz.prog.info? 4 = some Tryz.t4 from Tryz.type4, show Tryz.prog.info? 9 = some Tryz.t9 from Tryz.type9, show Tryz.prog.info? 40 = some Tryz.t40 from Tryz.type40]⟩) rfl rfl rfl rfl rfl rfl rfl (fun h => by first | rfl | (cases h; done)) (fun _ h => by cases h) (fun _ h => by cases h) (fun _ h => by cases h)
def ti42 : TI := ⟨true, 3, 48, .struct [(0, 4), (1, 9), (2, 40)], some [.bool false, .str ⟨#[]⟩, .nil], some .sexp, none⟩
theorem ti42_ok : TIok Tryz.prog 42 ti42 := TIok.agg Tryz.underlying42 Tryz.type42 rfl (⟨_, rfl, rfl, by simp [show Tryz.prog.info? 4 = some Tryz.t4 from Tryz.type4, show Tryz.prog.info? 9 = some Tryz.t9 from Tryz.type9, show Tryz.prog.info? 40 = some Tryz.t40 from Tryz.type40]⟩) rfl rfl rfl rfl rfl rfl rfl (fun h => by first | rfl | (cases h; done)) (fun e h => by cases h; exact ⟨rfl, by decide⟩) (fun e h => by cases h; rfl) (fun _ h => by cases h)
def ti44 : TI := ⟨false, 1, 8, .other, none, none, none⟩
theorem ti44_ok : TIok Tryz.prog 44 ti44 := TIok.none Tryz.underlying44 Tryz.type44 rfl trivial rfl rfl rfl (fun _ h => by cases h) (fun _ h => by cases h) rfl
def ti45 : TI := ⟨false, 1, 8, .map 3 9, none, none, none⟩
theorem ti45_ok : TIok Tryz.prog 45 ti45 := TIok.none Tryz.underlying45 Tryz.type45 rfl rfl rfl rfl rfl (fun _ h => by cases h) (fun _ h => by cases h) rfl
def ti46 : TI := ⟨false, 1, 8, .other, none, none, none⟩
theorem ti46_ok : TIok Tryz.prog 46 ti46 := TIok.none Tryz.underlying46 Tryz.type46 rfl trivial rfl rfl rfl (fun _ h => by cases h) (fun _ h => by cases h) rfl
def ti47 : TI := ⟨false, 1, 8, .other, none, none, none⟩
theorem ti47_ok : TIok Tryz.prog 47 ti47 := TIok.none Tryz.underlying47 Tryz.type47 rfl trivial rfl rfl rfl (fun _ h => by cases h) (fun _ h => by cases h) rfl
def ti48 : TI := ⟨false, 1, 8, .map 9 47, none, none, none⟩
theorem ti48_ok : TIok Tryz.prog 48 ti48 := TIok.none Tryz.underlying48 Tryz.type48 rfl rfl rfl rfl rfl (fun _ h => by cases h) (fun _ h => by cases h) rfl
def ti49 : TI := ⟨false, 1, 8, .other, none, none, none⟩
theorem ti49_ok : TIok Tryz.prog 49 ti49 := TIok.none Tryz.underlying49 Tryz.type49 rfl trivial rfl rfl rfl (fun _ h => by cases h) (fun _ h => by cases h) rfl
def ti50 : TI := ⟨false, 1, 8, .other, some [.cst (.pointer none)], none, none⟩
theorem ti50_ok : TIok Tryz.prog 50 ti50 := TIok.agg Tryz.underlying50 Tryz.type50 rfl trivial rfl rfl rfl rfl rfl rfl rfl (fun h => by first | rfl | (cases h; done)) (fun _ h => by cases h) (fun _ h => by cases h) (fun _ h => by cases h)
def ti51 : TI := ⟨true, 8, 128, .array 8 9, some [.str ⟨#[]⟩, .str ⟨#[]⟩, .str ⟨#[]⟩, .str ⟨#[]⟩, .str ⟨#[]⟩, .str ⟨#[]⟩, .str ⟨#[]⟩, .str ⟨#[]⟩], none, none⟩
theorem ti51_ok : TIok Tryz.prog 51 ti51 := TIok.agg Tryz.underlying51 Tryz.type51 rfl rfl rfl rfl rfl rfl rfl rfl rfl (fun h => by first | rfl | (cases h; done)) (fun _ h => by cases h) (fun _ h => by cases h) (fun _ h => by cases h)
def ti52 : TI := ⟨false, 1, 8, .other, none, none, none⟩
theorem ti52_ok : TIok Tryz.prog 52 ti52 := TIok.none Tryz.underlying52 Tryz.type52 rfl trivial rfl rfl rfl (fun _ h => by cases h) (fun _ h => by cases h) rfl
def ti54 : TI := ⟨false, 1, 8, .other, none, none, none⟩
theorem ti54_ok : TIok Tryz.prog 54 ti54 := TIok.none Tryz.underlying54 Tryz.type54 rfl trivial rfl rfl rfl (fun _ h => by cases h) (fun _ h => by cases h) rfl
def ti55 : TI := ⟨false, 1, 8, .other, none, none, none⟩
theorem ti55_ok : TIok Tryz.prog 55 ti55 := TIok.none Tryz.underlying55 Tryz.type55 rfl trivial rfl rfl rfl (fun _ h => by cases h) (fun _ h => by cases h) rfl
def ti56 : TI := ⟨false, 1, 8, .other, none, none, none⟩
theorem ti56_ok : TIok Tryz.prog 56 ti56 := TIok.none Tryz.underlying56 Tryz.type56 rfl trivial rfl rfl rfl (fun _ h => by cases h) (fun _ h => by cases h) rfl
def ti57 : TI := ⟨false, 1, 8, .other, none, none, none⟩
theorem ti57_ok : TIok Tryz.prog 57 ti57 := TIok.none Tryz.underlying57 Tryz.type57 rfl trivial rfl rfl rfl (fun _ h => by cases h) (fun _ h => by cases h) rfl
def ti58 : TI := ⟨false, 1, 8, .other, none, none, none⟩
theorem ti58_ok : TIok Tryz.prog 58 ti58 := TIok.none Tryz.underlying58 Tryz.type58 rfl trivial rfl rfl rfl (fun _ h => by cases h) (fun _ h => by cases h) rfl
def ti59 : TI := ⟨false, 1, 8, .other, none, none, none⟩
theorem ti59_ok : TIok Tryz.prog 59 ti59 := TIok.none Tryz.underlying59 Tryz.type59 rfl trivial rfl rfl rfl (fun _ h => by cases h) (fun _ h => by cases h) rfl
def ti60 : TI := ⟨false, 1, 8, .other, none, none, none⟩
theorem ti60_ok : TIok Tryz.prog 60 ti60 := TIok.none Tryz.underlying60 Tryz.type60 rfl trivial rfl rfl rfl (fun _ h => by cases h) (fun _ h => by cases h) rfl
def ti62 : TI := ⟨false, 1, 8, .other, none, none, none⟩
theorem ti62_ok : TIok Tryz.prog 62 ti62 := TIok.none Tryz.underlying62 Tryz.type62 rfl trivial rfl rfl rfl (fun _ h => by cases h) (fun _ h => by cases h) rfl
def ti64 : TI := ⟨false, 1, 8, .other, none, none, none⟩
theorem ti64_ok : TIok Tryz.prog 64 ti64 := TIok.none Tryz.underlying64 Tryz.type64 rfl trivial rfl rfl rfl (fun _ h => by cases h) (fun _ h => by cases h) rfl
def ti65 : TI := ⟨true, 32, 32, .array 32 5, some [.int .u8 0, .int .u8 0, .int .u8 0, .int .u8 0, .int .u8 0, .int .u8 0, .int .u8 0, .int .u8 0, .int .u8 0, .int .u8 0, .int .u8 0, .int .u8 0, .int .u8 0, .int .u8 0, .int .u8 0, .int .u8 0, .int .u8 0, .int .u8 0, .int .u8 0, .int .u8 0, .int .u8 0, .int .u8 0, .int .u8 0, .int .u8 0, .int .u8 0, .int .u8 0, .int .u8 0, .int .u8 0, .int .u8 0, .int .u8 0, .int .u8 0, .int .u8 0], none, none⟩
theorem ti65_ok : TIok Tryz.prog 65 ti65 := TIok.agg Tryz.underlying65 Tryz.type65 rfl rfl rfl rfl rfl rfl rfl rfl rfl (fun h => by first | rfl | (cases h; done)) (fun _ h => by cases h) (fun _ h => by cases h) (fun _ h => by cases h)
def ti66 : TI := ⟨true, 32, 32, .array 32 5, some [.int .u8 0, .int .u8 0, .int .u8 0, .int .u8 0, .int .u8 0, .int .u8 0, .int .u8 0, .int .u8 0, .int .u8 0, .int .u8 0, .int .u8 0, .int .u8 0, .int .u8 0, .int .u8 0, .int .u8 0, .int .u8 0, .int .u8 0, .int .u8 0, .int .u8 0, .int .u8 0, .int .u8 0, .int .u8 0, .int .u8 0, .int .u8 0, .int .u8 0, .int .u8 0, .int .u8 0, .int .u8 0, .int .u8 0, .int .u8 0, .int .u8 0, .int .u8 0], some .dig, some [0, 0, 0, 0, 0, 0, 0, 0, 0, 0, 0, 0, 0, 0, 0, 0, 0, 0, 0, 0, 0, 0, 0, 0, 0, 0, 0, 0, 0, 0, 0, 0]⟩
theorem ti66_ok : TIok Tryz.prog 66 ti66 := TIok.agg Tryz.underlying66 Tryz.type66 rfl rfl rfl rfl rfl rfl rfl rfl rfl (fun h => by first | rfl | (cases h; done)) (fun e h => by cases h; exact ⟨rfl, by decide⟩) (fun e h => by cases h; rfl) (fun ks hks => by cases hks; exact ⟨Tryz.eqGuardType66, rfl, fun vs us b h0 => by rw [eqV_arr (d := 3) Tryz.underlying66 Tryz.type5]; exact eqIs_leaf (d := 2) Tryz.underlying5 32 0 [] [] vs us b rfl rfl h0⟩)
def ti67 : TI := ⟨true, 99, 136, .struct [(0, 66), (32, 66), (64, 4), (65, 3), (66, 66), (98, 23)], some (dgl dg0 (dgl dg0 [.bool false, .int .i64 0, .int .u8 0, .int .u8 0, .int .u8 0, .int .u8 0, .int .u8 0, .int .u8 0, .int .u8 0, .int .u8 0, .int .u8 0, .int .u8 0, .int .u8 0, .int .u8 0, .int .u8 0, .int .u8 0, .int .u8 0, .int .u8 0, .int .u8 0, .int .u8 0, .int .u8 0, .int .u8 0, .int .u8 0, .int .u8 0, .int .u8 0, .int .u8 0, .int .u8 0, .int .u8 0, .int .u8 0, .int .u8 0, .int .u8 0, .int .u8 0, .int .u8 0, .int .u8 0, .nil])), none, none⟩
theorem ti67_ok : TIok Tryz.prog 67 ti67 := TIok.agg Tryz.underlying67 Tryz.type67 rfl (⟨_, rfl, rfl, by simp [show Tryz.prog.info? 3 = some Tryz.t3 from Tryz.type3, show Tryz.prog.info? 4 = some Tryz.t4 from Tryz.type4, show Tryz.prog.info? 23 = some Tryz.t23 from Tryz.type23, show Tryz.prog.info? 66 = some Tryz.t66 from Tryz.type66]⟩) rfl rfl rfl rfl rfl rfl rfl (fun h => by first | rfl | (cases h; done)) (fun _ h => by cases h) (fun _ h => by cases h) (fun _ h => by cases h)
def ti68 : TI := ⟨true, 99, 136, .struct [(0, 66), (32, 66), (64, 4), (65, 3), (66, 66), (98, 23)], some (dgl dg0 (dgl dg0 [.bool false, .int .i64 0, .int .u8 0, .int .u8 0, .int .u8 0, .int .u8 0, .int .u8 0, .int .u8 0, .int .u8 0, .int .u8 0, .int .u8 0, .int .u8 0, .int .u8 0, .int .u8 0, .int .u8 0, .int .u8 0, .int .u8 0, .int .u8 0, .int .u8 0, .int .u8 0, .int .u8 0, .int .u8 0, .int .u8 0, .int .u8 0, .int .u8 0, .int .u8 0, .int .u8 0, .int .u8 0, .int .u8 0, .int .u8 0, .int .u8 0, .int .u8 0, .int .u8 0, .int .u8 0, .nil])), some .rng, none⟩
theorem ti68_ok : TIok Tryz.prog 68 ti68 := TIok.agg Tryz.underlying68 Tryz.type68 rfl (⟨_, rfl, rfl, by simp [show Tryz.prog.info? 3 = some Tryz.t3 from Tryz.type3, show Tryz.prog.info? 4 = some Tryz.t4 from Tryz.type4, show Tryz.prog.info? 23 = some Tryz.t23 from Tryz.type23, show Tryz.prog.info? 66 = some Tryz.t66 from Tryz.type66]⟩) rfl rfl rfl rfl rfl rfl rfl (fun h => by first | rfl | (cases h; done)) (fun e h => by cases h; exact ⟨rfl, by decide⟩) (fun e h => by cases h; rfl) (fun _ h => by cases h)
def ti69 : TI := ⟨false, 1, 8, .other, none, none, none⟩
theorem ti69_ok : TIok Tryz.prog 69 ti69 := TIok.none Tryz.underlying69 Tryz.type69 rfl trivial rfl rfl rfl (fun _ h => by cases h) (fun _ h => by cases h) rfl
def ti71 : TI := ⟨false, 1, 8, .other, none, none, none⟩
theorem ti71_ok : TIok Tryz.prog 71 ti71 := TIok.none Tryz.underlying71 Tryz.type71 rfl trivial rfl rfl rfl (fun _ h => by cases h) (fun _ h => by cases h) rfl
def ti72 : TI := ⟨false, 1, 8, .other, none, none, none⟩
theorem ti72_ok : TIok Tryz.prog 72 ti72 := TIok.none Tryz.underlying72 Tryz.type72 rfl trivial rfl rfl rfl (fun _ h => by cases h) (fun _ h => by cases h) rfl
def ti74 : TI := ⟨false, 1, 8, .other, none, none, none⟩
theorem ti74_ok : TIok Tryz.prog 74 ti74 := TIok.none Tryz.underlying74 Tryz.type74 rfl trivial rfl rfl rfl (fun _ h => by cases h) (fun _ h => by cases h) rfl
def ti75 : TI := ⟨false, 1, 8, .other, none, none, none⟩
theorem ti75_ok : TIok Tryz.prog 75 ti75 := TIok.none Tryz.underlying75 Tryz.type75 rfl trivial rfl rfl rfl (fun _ h => by cases h) (fun _ h => by cases h) rfl
def ti77 : TI := ⟨false, 1, 8, .other, none, none, none⟩
theorem ti77_ok : TIok Tryz.prog 77 ti77 := TIok.none Tryz.underlying77 Tryz.type77 rfl trivial rfl rfl rfl (fun _ h => by cases h) (fun _ h => by cases h) rfl
def ti79 : TI := ⟨false, 1, 8, .other, none, none, none⟩
theorem ti79_ok : TIok Tryz.prog 79 ti79 := TIok.none Tryz.underlying79 Tryz.type79 rfl trivial rfl rfl rfl (fun _ h => by cases h) (fun _ h => by cases h) rfl
def ti81 : TI := ⟨false, 1, 8, .other, none, none, none⟩
theorem ti81_ok : TIok Tryz.prog 81 ti81 := TIok.none Tryz.underlying81 Tryz.type81 rfl trivial rfl rfl rfl (fun _ h => by cases h) (fun _ h => by cases h) rfl
def ti82 : TI := ⟨false, 1, 8, .other, none, none, none⟩
theorem ti82_ok : TIok Tryz.prog 82 ti82 := TIok.none Tryz.underlying82 Tryz.type82 rfl trivial rfl rfl rfl (fun _ h => by cases h) (fun _ h => by cases h) rfl
def ti83 : TI := ⟨false, 1, 8, .other, none, none, none⟩
theorem ti83_ok : TIok Tryz.prog 83 ti83 := TIok.none Tryz.underlying83 Tryz.type83 rfl trivial rfl rfl rfl (fun _ h => by cases h) (fun _ h => by cases h) rfl
def ti84 : TI := ⟨false, 1, 8, .other, none, none, none⟩
theorem ti84_ok : TIok Tryz.prog 84 ti84 := TIok.none Tryz.underlying84 Tryz.type84 rfl trivial rfl rfl rfl (fun _ h => by cases h) (fun _ h => by cases h) rfl
def ti86 : TI := ⟨false, 1, 8, .other, none, none, none⟩
theorem ti86_ok : TIok Tryz.prog 86 ti86 := TIok.none Tryz.underlying86 Tryz.type86 rfl trivial rfl rfl rfl (fun _ h => by cases h) (fun _ h => by cases h) rfl
def ti87 : TI := ⟨false, 1, 8, .other, none, none, none⟩
theorem ti87_ok : TIok Tryz.prog 87 ti87 := TIok.none Tryz.underlying87 Tryz.type87 rfl trivial rfl rfl rfl (fun _ h => by cases h) (fun _ h => by cases h) rfl
def ti88 : TI := ⟨false, 1, 8, .other, none, none, none⟩
theorem ti88_ok : TIok Tryz.prog 88 ti88 := TIok.none Tryz.underlying88 Tryz.type88 rfl trivial rfl rfl rfl (fun _ h => by cases h) (fun _ h => by cases h) rfl
def ti89 : TI := ⟨false, 1, 8, .other, none, none, none⟩
theorem ti89_ok : TIok Tryz.prog 89 ti89 := TIok.none Tryz.underlying89 Tryz.type89 rfl trivial rfl rfl rfl (fun _ h => by cases h) (fun _ h => by cases h) rfl
def ti90 : TI := ⟨false, 1, 8, .other, none, none, none⟩
theorem ti90_ok : TIok Tryz.prog 90 ti90 := TIok.none Tryz.underlying90 Tryz.type90 rfl trivial rfl rfl rfl (fun _ h => by cases h) (fun _ h => by cases h) rfl
def ti91 : TI := ⟨false, 1, 8, .other, none, none, none⟩
theorem ti91_ok : TIok Tryz.prog 91 ti91 := TIok.none Tryz.underlying91 Tryz.type91 rfl trivial rfl rfl rfl (fun _ h => by cases h) (fun _ h => by cases h) rfl
def ti92 : TI := ⟨true, 1, 8, .struct [(0, 26)], some [.int .i64 0], none, none⟩
theorem ti92_ok : TIok Tryz.prog 92 ti92 := TIok.agg Tryz.underlying92 Tryz.type92 rfl (⟨_, rfl, rfl, by simp [show Tryz.prog.info? 26 = some Tryz.t26 from Tryz.type26]⟩) rfl rfl rfl rfl rfl rfl rfl (fun h => by first | rfl | (cases h; done)) (fun _ h => by cases h) (fun _ h => by cases h) (fun _ h => by cases h)
def ti93 : TI := ⟨true, 1, 8, .struct [(0, 26)], some [.int .i64 0], none, none⟩
theorem ti93_ok : TIok Tryz.prog 93 ti93 := TIok.agg Tryz.underlying93 Tryz.type93 rfl (⟨_, rfl, rfl, by simp [show Tryz.prog.info? 26 = some Tryz.t26 from Tryz.type26]⟩) rfl rfl rfl rfl rfl rfl rfl (fun h => by first | rfl | (cases h; done)) (fun _ h => by cases h) (fun _ h => by cases h) (fun _ h => by cases h)
def ti95 : TI := ⟨false, 1, 8, .other, some [.cst (.pointer none)], none, none⟩
theorem ti95_ok : TIok Tryz.prog 95 ti95 := TIok.agg Tryz.underlying95 Tryz.type95 rfl trivial rfl rfl rfl rfl rfl rfl rfl (fun h => by first | rfl | (cases h; done)) (fun _ h => by cases h) (fun _ h => by cases h) (fun _ h => by cases h)
def ti96 : TI := ⟨true, 3, 32, .struct [(0, 9), (1, 3), (2, 3)], some [.str ⟨#[]⟩, .int .i64 0, .int .i64 0], none, none⟩
theorem ti96_ok : TIok Tryz.prog 96 ti96 := TIok.agg Tryz.underlying96 Tryz.type96 rfl (⟨_, rfl, rfl, by simp [show Tryz.prog.info? 3 = some Tryz.t3 from Tryz.type3, show Tryz.prog.info? 9 = some Tryz.t9 from Tryz.type9]⟩) rfl rfl rfl rfl rfl rfl rfl (fun h => by first | rfl | (cases h; done)) (fun _ h => by cases h) (fun _ h => by cases h) (fun _ h => by cases h)
def ti97 : TI := ⟨true, 3, 32, .struct [(0, 9), (1, 3), (2, 3)], some [.str ⟨#[]⟩, .int .i64 0, .int .i64 0], none, none⟩
theorem ti97_ok : TIok Tryz.prog 97 ti97 := TIok.agg Tryz.underlying97 Tryz.type97 rfl (⟨_, rfl, rfl, by simp [show Tryz.prog.info? 3 = some Tryz.t3 from Tryz.type3, show Tryz.prog.info? 9 = some Tryz.t9 from Tryz.type9]⟩) rfl rfl rfl rfl rfl rfl rfl (fun h => by first | rfl | (cases h; done)) (fun _ h => by cases h) (fun _ h => by cases h) (fun _ h => by cases h)
def ti98 : TI := ⟨false, 1, 8, .other, none, none, none⟩
theorem ti98_ok : TIok Tryz.prog 98 ti98 := TIok.none Tryz.underlying98 Tryz.type98 rfl trivial rfl rfl rfl (fun _ h => by cases h) (fun _ h => by cases h) rfl
def ti101 : TI := ⟨false, 1, 24, .slice 5, some [.nil], none, none⟩
theorem ti101_ok : TIok Tryz.prog 101 ti101 := TIok.agg Tryz.underlying101 Tryz.type101 rfl (⟨rfl, by rw [show Tryz.prog.info? 5 = some Tryz.t5 from Tryz.type5]; rfl⟩) rfl rfl rfl rfl rfl rfl rfl (fun h => by first | rfl | (cases h; done)) (fun _ h => by cases h) (fun _ h => by cases h) (fun _ h => by cases h)
def ti102 : TI := ⟨true, 4, 40, .struct [(0, 9), (1, 3), (2, 3), (3, 26)], some [.str ⟨#[]⟩, .int .i64 0, .int .i64 0, .int .i64 0], none, none⟩
theorem ti102_ok : TIok Tryz.prog 102 ti102 := TIok.agg Tryz.underlying102 Tryz.type102 rfl (⟨_, rfl, rfl, by simp [show Tryz.prog.info? 3 = some Tryz.t3 from Tryz.type3, show Tryz.prog.info? 9 = some Tryz.t9 from Tryz.type9, show Tryz.prog.info? 26 = some Tryz.t26 from Tryz.type26]⟩) rfl rfl rfl rfl rfl rfl rfl (fun h => by first | rfl | (cases h; done)) (fun _ h => by cases h) (fun _ h => by cases h) (fun _ h => by cases h)
def ti103 : TI := ⟨true, 4, 40, .struct [(0, 9), (1, 3), (2, 3), (3, 26)], some [.str ⟨#[]⟩, .int .i64 0, .int .i64 0, .int .i64 0], none, none⟩
theorem ti103_ok : TIok Tryz.prog 103 ti103 := TIok.agg Tryz.underlying103 Tryz.type103 rfl (⟨_, rfl, rfl, by simp [show Tryz.prog.info? 3 = some Tryz.t3 from Tryz.type3, show Tryz.prog.info? 9 = some Tryz.t9 from Tryz.type9, show Tryz.prog.info? 26 = some Tryz.t26 from Tryz.type26]⟩) rfl rfl rfl rfl rfl rfl rfl (fun h => by first | rfl | (cases h; done)) (fun _ h => by cases h) (fun _ h => by cases h) (fun _ h => by cases h)
def ti105 : TI := ⟨false, 1, 8, .other, none, none, none⟩
theorem ti105_ok : TIok Tryz.prog 105 ti105 := TIok.none Tryz.underlying105 Tryz.type105 rfl trivial rfl rfl rfl (fun _ h => by cases h) (fun _ h => by cases h) rfl
def ti106 : TI := ⟨false, 1, 8, .other, none, none, none⟩
theorem ti106_ok : TIok Tryz.prog 106 ti106 := TIok.none Tryz.underlying106 Tryz.type106 rfl trivial rfl rfl rfl (fun _ h => by cases h) (fun _ h => by cases h) rfl
def ti107 : TI := ⟨false, 1, 8, .other, none, none, none⟩
theorem ti107_ok : TIok Tryz.prog 107 ti107 := TIok.none Tryz.underlying107 Tryz.type107 rfl trivial rfl rfl rfl (fun _ h => by cases h) (fun _ h => by cases h) rfl
def ti108 : TI := ⟨false, 1, 8, .other, some [.cst (.pointer none)], none, none⟩
theorem ti108_ok : TIok Tryz.prog 108 ti108 := TIok.agg Tryz.underlying108 Tryz.type108 rfl trivial rfl rfl rfl rfl rfl rfl rfl (fun h => by first | rfl | (cases h; done)) (fun _ h => by cases h) (fun _ h => by cases h) (fun _ h => by cases h)
def ti109 : TI := ⟨true, 2, 32, .struct [(0, 108), (1, 101)], some [.cst (.pointer none), .nil], none, none⟩
theorem ti109_ok : TIok Tryz.prog 109 ti109 := TIok.agg Tryz.underlying109 Tryz.type109 rfl (⟨_, rfl, rfl, by simp [show Tryz.prog.info? 101 = some Tryz.t101 from Tryz.type101, show Tryz.prog.info? 108 = some Tryz.t108 from Tryz.type108]⟩) rfl rfl rfl rfl rfl rfl rfl (fun h => by first | rfl | (cases h; done)) (fun _ h => by cases h) (fun _ h => by cases h) (fun _ h => by cases h)
def ti110 : TI := ⟨true, 2, 32, .struct [(0, 108), (1, 101)], some [.fp, .nil], none, none⟩
theorem ti110_ok : TIok Tryz.prog 110 ti110 := TIok.agg Tryz.underlying110 Tryz.type110 rfl (⟨_, rfl, rfl, by simp [show Tryz.prog.info? 101 = some Tryz.t101 from Tryz.type101, show Tryz.prog.info? 108 = some Tryz.t108 from Tryz.type108]⟩) rfl rfl rfl rfl rfl rfl rfl (fun h => by first | rfl | (cases h; done)) (fun _ h => by cases h) (fun _ h => by cases h) (fun _ h => by cases h)
def ti111 : TI := ⟨false, 1, 8, .other, none, none, none⟩
theorem ti111_ok : TIok Tryz.prog 111 ti111 := TIok.none Tryz.underlying111 Tryz.type111 rfl trivial rfl rfl rfl (fun _ h => by cases h) (fun _ h => by cases h) rfl
def ti112 : TI := ⟨false, 1, 8, .other, none, none, none⟩
theorem ti112_ok : TIok Tryz.prog 112 ti112 := TIok.none Tryz.underlying112 Tryz.type112 rfl trivial rfl rfl rfl (fun _ h => by cases h) (fun _ h => by cases h) rfl
def ti113 : TI := ⟨false, 1, 8, .other, none, none, none⟩
theorem ti113_ok : TIok Tryz.prog 113 ti113 := TIok.none Tryz.underlying113 Tryz.type113 rfl trivial rfl rfl rfl (fun _ h => by cases h) (fun _ h => by cases h) rfl
def ti114 : TI := ⟨false, 1, 8, .other, none, none, none⟩
theorem ti114_ok : TIok Tryz.prog 114 ti114 := TIok.none Tryz.underlying114 Tryz.type114 rfl trivial rfl rfl rfl (fun _ h => by cases h) (fun _ h => by cases h) rfl
def ti115 : TI := ⟨false, 1, 8, .other, none, none, none⟩
theorem ti115_ok : TIok Tryz.prog 115 ti115 := TIok.none Tryz.underlying115 Tryz.type115 rfl trivial rfl rfl rfl (fun _ h => by cases h) (fun _ h => by cases h) rfl
def ti116 : TI := ⟨false, 1, 8, .other, none, none, none⟩
theorem ti116_ok : TIok Tryz.prog 116 ti116 := TIok.none Tryz.underlying116 Tryz.type116 rfl trivial rfl rfl rfl (fun _ h => by cases h) (fun _ h => by cases h) rfl
def ti117 : TI := ⟨false, 1, 8, .other, none, none, none⟩
theorem ti117_ok : TIok Tryz.prog 117 ti117 := TIok.none Tryz.underlying117 Tryz.type117 rfl trivial rfl rfl rfl (fun _ h => by cases h) (fun _ h => by cases h) rfl
def ti118 : TI := ⟨false, 1, 8, .other, none, none, none⟩
theorem ti118_ok : TIok Tryz.prog 118 ti118 := TIok.none Tryz.underlying118 Tryz.type118 rfl trivial rfl rfl rfl (fun _ h => by cases h) (fun _ h => by cases h) rfl
def ti119 : TI := ⟨false, 1, 8, .other, none, none, none⟩
theorem ti119_ok : TIok Tryz.prog 119 ti119 := TIok.none Tryz.underlying119 Tryz.type119 rfl trivial rfl rfl rfl (fun _ h => by cases h) (fun _ h => by cases h) rfl
def ti120 : TI := ⟨false, 1, 8, .other, none, none, none⟩
theorem ti120_ok : TIok Tryz.prog 120 ti120 := TIok.none Tryz.underlying120 Tryz.type120 rfl trivial rfl rfl rfl (fun _ h => by cases h) (fun _ h => by cases h) rfl
def ti121 : TI := ⟨false, 1, 16, .iface, some [.cst .nilIface], none, none⟩
theorem ti121_ok : TIok Tryz.prog 121 ti121 := TIok.agg Tryz.underlying121 Tryz.type121 rfl (⟨_, rfl⟩) rfl rfl rfl rfl rfl rfl rfl (fun h => by first | rfl | (cases h; done)) (fun _ h => by cases h) (fun _ h => by cases h) (fun _ h => by cases h)
def ti122 : TI := ⟨false, 1, 16, .iface, some [.cst .nilIface], none, none⟩
theorem ti122_ok : TIok Tryz.prog 122 ti122 := TIok.agg Tryz.underlying122 Tryz.type122 rfl (⟨_, rfl⟩) rfl rfl rfl rfl rfl rfl rfl (fun h => by first | rfl | (cases h; done)) (fun _ h => by cases h) (fun _ h => by cases h) (fun _ h => by cases h)
def ti124 : TI := ⟨false, 1, 8, .other, none, none, none⟩
theorem ti124_ok : TIok Tryz.prog 124 ti124 := TIok.none Tryz.underlying124 Tryz.type124 rfl trivial rfl rfl rfl (fun _ h => by cases h) (fun _ h => by cases h) rfl
def ti126 : TI := ⟨false, 1, 8, .other, none, none, none⟩
theorem ti126_ok : TIok Tryz.prog 126 ti126 := TIok.none Tryz.underlying126 Tryz.type126 rfl trivial rfl rfl rfl (fun _ h => by cases h) (fun _ h => by cases h) rfl
def ti127 : TI := ⟨false, 1, 8, .other, none, none, none⟩
theorem ti127_ok : TIok Tryz.prog 127 ti127 := TIok.none Tryz.underlying127 Tryz.type127 rfl trivial rfl rfl rfl (fun _ h => by cases h) (fun _ h => by cases h) rfl
def ti128 : TI := ⟨false, 1, 8, .other, none, none, none⟩
theorem ti128_ok : TIok Tryz.prog 128 ti128 := TIok.none Tryz.underlying128 Tryz.type128 rfl trivial rfl rfl rfl (fun _ h => by cases h) (fun _ h => by cases h) rfl
def ti129 : TI := ⟨false, 1, 8, .other, none, none, none⟩
theorem ti129_ok : TIok Tryz.prog 129 ti129 := TIok.none Tryz.underlying129 Tryz.type129 rfl trivial rfl rfl rfl (fun _ h => by cases h) (fun _ h => by cases h) rfl
def ti130 : TI := ⟨false, 1, 8, .other, none, none, none⟩
theorem ti130_ok : TIok Tryz.prog 130 ti130 := TIok.none Tryz.underlying130 Tryz.type130 rfl trivial rfl rfl rfl (fun _ h => by cases h) (fun _ h => by cases h) rfl
def ti131 : TI := ⟨false, 1, 8, .other, none, none, none⟩
theorem ti131_ok : TIok Tryz.prog 131 ti131 := TIok.none Tryz.underlying131 Tryz.type131 rfl trivial rfl rfl rfl (fun _ h => by cases h) (fun _ h => by cases h) rfl
def ti132 : TI := ⟨false, 1, 8, .other, some [.cst (.pointer none)], none, none⟩
theorem ti132_ok : TIok Tryz.prog 132 ti132 := TIok.agg Tryz.underlying132 Tryz.type132 rfl trivial rfl rfl rfl rfl rfl rfl rfl (fun h => by first | rfl | (cases h; done)) (fun _ h => by cases h) (fun _ h => by cases h) (fun _ h => by cases h)
def ti133 : TI := ⟨true, 2, 16, .struct [(0, 3), (1, 4)], some [.int .i64 0, .bool false], none, none⟩
theorem ti133_ok : TIok Tryz.prog 133 ti133 := TIok.agg Tryz.underlying133 Tryz.type133 rfl (⟨_, rfl, rfl, by simp [show Tryz.prog.info? 3 = some Tryz.t3 from Tryz.type3, show Tryz.prog.info? 4 = some Tryz.t4 from Tryz.type4]⟩) rfl rfl rfl rfl rfl rfl rfl (fun h => by first | rfl | (cases h; done)) (fun _ h => by cases h) (fun _ h => by cases h) (fun _ h => by cases h)
def ti134 : TI := ⟨true, 2, 16, .struct [(0, 3), (1, 4)], some [.int .i64 0, .bool false], none, none⟩
theorem ti134_ok : TIok Tryz.prog 134 ti134 := TIok.agg Tryz.underlying134 Tryz.type134 rfl (⟨_, rfl, rfl, by simp [show Tryz.prog.info? 3 = some Tryz.t3 from Tryz.type3, show Tryz.prog.info? 4 = some Tryz.t4 from Tryz.type4]⟩) rfl rfl rfl rfl rfl rfl rfl (fun h => by first | rfl | (cases h; done)) (fun _ h => by cases h) (fun _ h => by cases h) (fun _ h => by cases h)
def ti135 : TI := ⟨false, 1, 8, .other, none, none, none⟩
theorem ti135_ok : TIok Tryz.prog 135 ti135 := TIok.none Tryz.underlying135 Tryz.type135 rfl trivial rfl rfl rfl (fun _ h => by cases h) (fun _ h => by cases h) rfl
def ti136 : TI := ⟨false, 1, 8, .other, none, none, none⟩
theorem ti136_ok : TIok Tryz.prog 136 ti136 := TIok.none Tryz.underlying136 Tryz.type136 rfl trivial rfl rfl rfl (fun _ h => by cases h) (fun _ h => by cases h) rfl
def ti137 : TI := ⟨false, 1, 8, .other, some [.cst (.pointer none)], none, none⟩
theorem ti137_ok : TIok Tryz.prog 137 ti137 := TIok.agg Tryz.underlying137 Tryz.type137 rfl trivial rfl rfl rfl rfl rfl rfl rfl (fun h => by first | rfl | (cases h; done)) (fun _ h => by cases h) (fun _ h => by cases h) (fun _ h => by cases h)
def ti138 : TI := ⟨false, 1, 8, .other, none, none, none⟩
theorem ti138_ok : TIok Tryz.prog 138 ti138 := TIok.none Tryz.underlying138 Tryz.type138 rfl trivial rfl rfl rfl (fun _ h => by cases h) (fun _ h => by cases h) rfl
def ti139 : TI := ⟨false, 1, 8, .other, none, none, none⟩
theorem ti139_ok : TIok Tryz.prog 139 ti139 := TIok.none Tryz.underlying139 Tryz.type139 rfl trivial rfl rfl rfl (fun _ h => by cases h) (fun _ h => by cases h) rfl
def ti140 : TI := ⟨false, 1, 8, .other, none, none, none⟩
theorem ti140_ok : TIok Tryz.prog 140 ti140 := TIok.none Tryz.underlying140 Tryz.type140 rfl trivial rfl rfl rfl (fun _ h => by cases h) (fun _ h => by cases h) rfl
def ti141 : TI := ⟨false, 1, 8, .other, none, none, none⟩
theorem ti141_ok : TIok Tryz.prog 141 ti141 := TIok.none Tryz.underlying141 Tryz.type141 rfl trivial rfl rfl rfl (fun _ h => by cases h) (fun _ h => by cases h) rfl
def ti142 : TI := ⟨false, 1, 8, .other, none, none, none⟩
theorem ti142_ok : TIok Tryz.prog 142 ti142 := TIok.none Tryz.underlying142 Tryz.type142 rfl trivial rfl rfl rfl (fun _ h => by cases h) (fun _ h => by cases h) rfl
def ti143 : TI := ⟨false, 1, 8, .other, none, none, none⟩
theorem ti143_ok : TIok Tryz.prog 143 ti143 := TIok.none Tryz.underlying143 Tryz.type143 rfl trivial rfl rfl rfl (fun _ h => by cases h) (fun _ h => by cases h) rfl
def ti144 : TI := ⟨true, 24, 24, .array 24 5, some [.int .u8 0, .int .u8 0, .int .u8 0, .int .u8 0, .int .u8 0, .int .u8 0, .int .u8 0, .int .u8 0, .int .u8 0, .int .u8 0, .int .u8 0, .int .u8 0, .int .u8 0, .int .u8 0, .int .u8 0, .int .u8 0, .int .u8 0, .int .u8 0, .int .u8 0, .int .u8 0, .int .u8 0, .int .u8 0, .int .u8 0, .int .u8 0], none, none⟩
theorem ti144_ok : TIok Tryz.prog 144 ti144 := TIok.agg Tryz.underlying144 Tryz.type144 rfl rfl rfl rfl rfl rfl rfl rfl rfl (fun h => by first | rfl | (cases h; done)) (fun _ h => by cases h) (fun _ h => by cases h) (fun _ h => by cases h)
def ti145 : TI := ⟨false, 1, 8, .int .u64, some [.int .u64 0], none, none⟩
theorem ti145_ok : TIok Tryz.prog 145 ti145 := TIok.agg Tryz.underlying145 Tryz.type145 rfl rfl rfl rfl rfl rfl rfl rfl rfl (fun h => by first | rfl | (cases h; done)) (fun _ h => by cases h) (fun _ h => by cases h) (fun _ h => by cases h)
def ti146 : TI := ⟨false, 1, 8, .other, none, none, none⟩
theorem ti146_ok : TIok Tryz.prog 146 ti146 := TIok.none Tryz.underlying146 Tryz.type146 rfl trivial rfl rfl rfl (fun _ h => by cases h) (fun _ h => by cases h) rfl
def ti147 : TI := ⟨false, 1, 8, .other, none, none, none⟩
theorem ti147_ok : TIok Tryz.prog 147 ti147 := TIok.none Tryz.underlying147 Tryz.type147 rfl trivial rfl rfl rfl (fun _ h => by cases h) (fun _ h => by cases h) rfl
def ti149 : TI := ⟨false, 1, 8, .other, none, none, none⟩
theorem ti149_ok : TIok Tryz.prog 149 ti149 := TIok.none Tryz.underlying149 Tryz.type149 rfl trivial rfl rfl rfl (fun _ h => by cases h) (fun _ h => by cases h) rfl
def ti150 : TI := ⟨false, 1, 8, .int .i64, some [.int .i64 0], none, none⟩
theorem ti150_ok : TIok Tryz.prog 150 ti150 := TIok.agg Tryz.underlying150 Tryz.type150 rfl rfl rfl rfl rfl rfl rfl rfl rfl (fun h => by first | rfl | (cases h; done)) (fun _ h => by cases h) (fun _ h => by cases h) (fun _ h => by cases h)
def ti152 : TI := ⟨false, 1, 8, .other, none, none, none⟩
theorem ti152_ok : TIok Tryz.prog 152 ti152 := TIok.none Tryz.underlying152 Tryz.type152 rfl trivial rfl rfl rfl (fun _ h => by cases h) (fun _ h => by cases h) rfl
def ti153 : TI := ⟨false, 1, 8, .other, some [.cst (.pointer none)], none, none⟩
theorem ti153_ok : TIok Tryz.prog 153 ti153 := TIok.agg Tryz.underlying153 Tryz.type153 rfl trivial rfl rfl rfl rfl rfl rfl rfl (fun h => by first | rfl | (cases h; done)) (fun _ h => by cases h) (fun _ h => by cases h) (fun _ h => by cases h)
def ti154 : TI := ⟨false, 1, 8, .other, none, none, none⟩
theorem ti154_ok : TIok Tryz.prog 154 ti154 := TIok.none Tryz.underlying154 Tryz.type154 rfl trivial rfl rfl rfl (fun _ h => by cases h) (fun _ h => by cases h) rfl
def ti155 : TI := ⟨false, 1, 8, .other, none, none, none⟩
theorem ti155_ok : TIok Tryz.prog 155 ti155 := TIok.none Tryz.underlying155 Tryz.type155 rfl trivial rfl rfl rfl (fun _ h => by cases h) (fun _ h => by cases h) rfl
def ti156 : TI := ⟨false, 1, 8, .other, none, none, none⟩
theorem ti156_ok : TIok Tryz.prog 156 ti156 := TIok.none Tryz.underlying156 Tryz.type156 rfl trivial rfl rfl rfl (fun _ h => by cases h) (fun _ h => by cases h) rfl
def ti158 : TI := ⟨false, 1, 8, .other, none, none, none⟩
theorem ti158_ok : TIok Tryz.prog 158 ti158 := TIok.none Tryz.underlying158 Tryz.type158 rfl trivial rfl rfl rfl (fun _ h => by cases h) (fun _ h => by cases h) rfl
def ti159 : TI := ⟨false, 1, 8, .other, none, none, none⟩
theorem ti159_ok : TIok Tryz.prog 159 ti159 := TIok.none Tryz.underlying159 Tryz.type159 rfl trivial rfl rfl rfl (fun _ h => by cases h) (fun _ h => by cases h) rfl
def ti160 : TI := ⟨false, 1, 8, .other, none, none, none⟩
theorem ti160_ok : TIok Tryz.prog 160 ti160 := TIok.none Tryz.underlying160 Tryz.type160 rfl trivial rfl rfl rfl (fun _ h => by cases h) (fun _ h => by cases h) rfl
def ti161 : TI := ⟨true, 20, 160, .array 20 145, some [.int .u64 0, .int .u64 0, .int .u64 0, .int .u64 0, .int .u64 0, .int .u64 0, .int .u64 0, .int .u64 0, .int .u64 0, .int .u64 0, .int .u64 0, .int .u64 0, .int .u64 0, .int .u64 0, .int .u64 0, .int .u64 0, .int .u64 0, .int .u64 0, .int .u64 0, .int .u64 0], none, none⟩
theorem ti161_ok : TIok Tryz.prog 161 ti161 := TIok.agg Tryz.underlying161 Tryz.type161 rfl rfl rfl rfl rfl rfl rfl rfl rfl (fun h => by first | rfl | (cases h; done)) (fun _ h => by cases h) (fun _ h => by cases h) (fun _ h => by cases h)
def ti162 : TI := ⟨false, 1, 4, .int .u32, some [.int .u32 0], none, none⟩
theorem ti162_ok : TIok Tryz.prog 162 ti162 := TIok.agg Tryz.underlying162 Tryz.type162 rfl rfl rfl rfl rfl rfl rfl rfl rfl (fun h => by first | rfl | (cases h; done)) (fun _ h => by cases h) (fun _ h => by cases h) (fun _ h => by cases h)
def ti163 : TI := ⟨true, 65, 65, .array 65 5, none, none, none⟩
theorem ti163_ok : TIok Tryz.prog 163 ti163 := TIok.none Tryz.underlying163 Tryz.type163 rfl rfl rfl rfl rfl (fun _ h => by cases h) (fun _ h => by cases h) rfl
def ti164 : TI := ⟨false, 1, 8, .int .u64, some [.int .u64 0], none, none⟩
theorem ti164_ok : TIok Tryz.prog 164 ti164 := TIok.agg Tryz.underlying164 Tryz.type164 rfl rfl rfl rfl rfl rfl rfl rfl rfl (fun h => by first | rfl | (cases h; done)) (fun _ h => by cases h) (fun _ h => by cases h) (fun _ h => by cases h)
def ti165 : TI := ⟨false, 1, 8, .other, none, none, none⟩
theorem ti165_ok : TIok Tryz.prog 165 ti165 := TIok.none Tryz.underlying165 Tryz.type165 rfl trivial rfl rfl rfl (fun _ h => by cases h) (fun _ h => by cases h) rfl
def ti166 : TI := ⟨false, 1, 8, .other, none, none, none⟩
theorem ti166_ok : TIok Tryz.prog 166 ti166 := TIok.none Tryz.underlying166 Tryz.type166 rfl trivial rfl rfl rfl (fun _ h => by cases h) (fun _ h => by cases h) rfl
def ti168 : TI := ⟨false, 1, 8, .other, none, none, none⟩
theorem ti168_ok : TIok Tryz.prog 168 ti168 := TIok.none Tryz.underlying168 Tryz.type168 rfl trivial rfl rfl rfl (fun _ h => by cases h) (fun _ h => by cases h) rfl
def ti169 : TI := ⟨false, 1, 8, .other, none, none, none⟩
theorem ti169_ok : TIok Tryz.prog 169 ti169 := TIok.none Tryz.underlying169 Tryz.type169 rfl trivial rfl rfl rfl (fun _ h => by cases h) (fun _ h => by cases h) rfl
def ti170 : TI := ⟨true, 3, 48, .struct [(0, 9), (1, 9), (2, 122)], some [.str ⟨#[]⟩, .str ⟨#[]⟩, .cst .nilIface], none, none⟩
theorem ti170_ok : TIok Tryz.prog 170 ti170 := TIok.agg Tryz.underlying170 Tryz.type170 rfl (⟨_, rfl, rfl, by simp [show Tryz.prog.info? 9 = some Tryz.t9 from Tryz.type9, show Tryz.prog.info? 122 = some Tryz.t122 from Tryz.type122]⟩) rfl rfl rfl rfl rfl rfl rfl (fun h => by first | rfl | (cases h; done)) (fun _ h => by cases h) (fun _ h => by cases h) (fun _ h => by cases h)
def ti171 : TI := ⟨true, 3, 48, .struct [(0, 9), (1, 9), (2, 122)], some [.str ⟨#[]⟩, .str ⟨#[]⟩, .cst .nilIface], none, none⟩
theorem ti171_ok : TIok Tryz.prog 171 ti171 := TIok.agg Tryz.underlying171 Tryz.type171 rfl (⟨_, rfl, rfl, by simp [show Tryz.prog.info? 9 = some Tryz.t9 from Tryz.type9, show Tryz.prog.info? 122 = some Tryz.t122 from Tryz.type122]⟩) rfl rfl rfl rfl rfl rfl rfl (fun h => by first | rfl | (cases h; done)) (fun _ h => by cases h) (fun _ h => by cases h) (fun _ h => by cases h)
def ti172 : TI := ⟨false, 1, 8, .other, none, none, none⟩
theorem ti172_ok : TIok Tryz.prog 172 ti172 := TIok.none Tryz.underlying172 Tryz.type172 rfl trivial rfl rfl rfl (fun _ h => by cases h) (fun _ h => by cases h) rfl
def ti173 : TI := ⟨false, 1, 8, .other, none, none, none⟩
theorem ti173_ok : TIok Tryz.prog 173 ti173 := TIok.none Tryz.underlying173 Tryz.type173 rfl trivial rfl rfl rfl (fun _ h => by cases h) (fun _ h => by cases h) rfl
def ti174 : TI := ⟨false, 1, 8, .other, none, none, none⟩
theorem ti174_ok : TIok Tryz.prog 174 ti174 := TIok.none Tryz.underlying174 Tryz.type174 rfl trivial rfl rfl rfl (fun _ h => by cases h) (fun _ h => by cases h) rfl
def ti175 : TI := ⟨false, 1, 8, .other, some [.cst (.pointer none)], none, none⟩
theorem ti175_ok : TIok Tryz.prog 175 ti175 := TIok.agg Tryz.underlying175 Tryz.type175 rfl trivial rfl rfl rfl rfl rfl rfl rfl (fun h => by first | rfl | (cases h; done)) (fun _ h => by cases h) (fun _ h => by cases h) (fun _ h => by cases h)
def ti176 : TI := ⟨true, 1, 16, .struct [(0, 9)], some [.str ⟨#[]⟩], none, none⟩
theorem ti176_ok : TIok Tryz.prog 176 ti176 := TIok.agg Tryz.underlying176 Tryz.type176 rfl (⟨_, rfl, rfl, by simp [show Tryz.prog.info? 9 = some Tryz.t9 from Tryz.type9]⟩) rfl rfl rfl rfl rfl rfl rfl (fun h => by first | rfl | (cases h; done)) (fun _ h => by cases h) (fun _ h => by cases h) (fun _ h => by cases h)
def ti177 : TI := ⟨true, 1, 16, .struct [(0, 9)], some [.str ⟨#[]⟩], none, none⟩
theorem ti177_ok : TIok Tryz.prog 177 ti177 := TIok.agg Tryz.underlying177 Tryz.type177 rfl (⟨_, rfl, rfl, by simp [show Tryz.prog.info? 9 = some Tryz.t9 from Tryz.type9]⟩) rfl rfl rfl rfl rfl rfl rfl (fun h => by first | rfl | (cases h; done)) (fun _ h => by cases h) (fun _ h => by cases h) (fun _ h => by cases h)
def ti178 : TI := ⟨true, 64, 64, .array 64 5, none, none, none⟩
theorem ti178_ok : TIok Tryz.prog 178 ti178 := TIok.none Tryz.underlying178 Tryz.type178 rfl rfl rfl rfl rfl (fun _ h => by cases h) (fun _ h => by cases h) rfl
def ti179 : TI := ⟨true, 4, 40, .struct [(0, 17), (1, 17), (2, 17), (3, 9)], some [.cst (.pointer none), .cst (.pointer none), .cst (.pointer none), .str ⟨#[]⟩], none, none⟩
theorem ti179_ok : TIok Tryz.prog 179 ti179 := TIok.agg Tryz.underlying179 Tryz.type179 rfl (⟨_, rfl, rfl, by simp [show Tryz.prog.info? 9 = some Tryz.t9 from Tryz.type9, show Tryz.prog.info? 17 = some Tryz.t17 from Tryz.type17]⟩) rfl rfl rfl rfl rfl rfl rfl (fun h => by first | rfl | (cases h; done)) (fun _ h => by cases h) (fun _ h => by cases h) (fun _ h => by cases h)
def ti180 : TI := ⟨true, 4, 40, .struct [(0, 17), (1, 17), (2, 17), (3, 9)], some [.cst (.pointer none), .cst (.pointer none), .cst (.pointer none), .str ⟨#[]⟩], none, none⟩
theorem ti180_ok : TIok Tryz.prog 180 ti180 := TIok.agg Tryz.underlying180 Tryz.type180 rfl (⟨_, rfl, rfl, by simp [show Tryz.prog.info? 9 = some Tryz.t9 from Tryz.type9, show Tryz.prog.info? 17 = some Tryz.t17 from Tryz.type17]⟩) rfl rfl rfl rfl rfl rfl rfl (fun h => by first | rfl | (cases h; done)) (fun _ h => by cases h) (fun _ h => by cases h) (fun _ h => by cases h)
def ti181 : TI := ⟨true, 0, 0, .array 0 16, some [], none, none⟩
theorem ti181_ok : TIok Tryz.prog 181 ti181 := TIok.agg Tryz.underlying181 Tryz.type181 rfl rfl rfl rfl rfl rfl rfl rfl rfl (fun h => by first | rfl | (cases h; done)) (fun _ h => by cases h) (fun _ h => by cases h) (fun _ h => by cases h)
def ti182 : TI := ⟨true, 0, 0, .struct [(0, 181)], some [], none, none⟩
theorem ti182_ok : TIok Tryz.prog 182 ti182 := TIok.agg Tryz.underlying182 Tryz.type182 rfl (⟨_, rfl, rfl, by simp [show Tryz.prog.info? 181 = some Tryz.t181 from Tryz.type181]⟩) rfl rfl rfl rfl rfl rfl rfl (fun h => by first | rfl | (cases h; done)) (fun _ h => by cases h) (fun _ h => by cases h) (fun _ h => by cases h)
def ti183 : TI := ⟨true, 0, 0, .struct [(0, 181)], some [], none, none⟩
theorem ti183_ok : TIok Tryz.prog 183 ti183 := TIok.agg Tryz.underlying183 Tryz.type183 rfl (⟨_, rfl, rfl, by simp [show Tryz.prog.info? 181 = some Tryz.t181 from Tryz.type181]⟩) rfl rfl rfl rfl rfl rfl rfl (fun h => by first | rfl | (cases h; done)) (fun _ h => by cases h) (fun _ h => by cases h) (fun _ h => by cases h)
def ti184 : TI := ⟨false, 1, 1, .int .u8, some [.int .u8 0], none, none⟩
theorem ti184_ok : TIok Tryz.prog 184 ti184 := TIok.agg Tryz.underlying184 Tryz.type184 rfl rfl rfl rfl rfl rfl rfl rfl rfl (fun h => by first | rfl | (cases h; done)) (fun _ h => by cases h) (fun _ h => by cases h) (fun _ h => by cases h)
def ti185 : TI := ⟨false, 1, 1, .int .u8, some [.int .u8 0], none, none⟩
theorem ti185_ok : TIok Tryz.prog 185 ti185 := TIok.agg Tryz.underlying185 Tryz.type185 rfl rfl rfl rfl rfl rfl rfl rfl rfl (fun h => by first | rfl | (cases h; done)) (fun _ h => by cases h) (fun _ h => by cases h) (fun _ h => by cases h)
def ti186 : TI := ⟨false, 1, 8, .other, none, none, none⟩
theorem ti186_ok : TIok Tryz.prog 186 ti186 := TIok.none Tryz.underlying186 Tryz.type186 rfl trivial rfl rfl rfl (fun _ h => by cases h) (fun _ h => by cases h) rfl
def ti187 : TI := ⟨false, 1, 4, .int .i32, some [.int .i32 0], none, none⟩
theorem ti187_ok : TIok Tryz.prog 187 ti187 := TIok.agg Tryz.underlying187 Tryz.type187 rfl rfl rfl rfl rfl rfl rfl rfl rfl (fun h => by first | rfl | (cases h; done)) (fun _ h => by cases h) (fun _ h => by cases h) (fun _ h => by cases h)
def ti188 : TI := ⟨false, 1, 4, .int .i32, some [.int .i32 0], none, none⟩
theorem ti188_ok : TIok Tryz.prog 188 ti188 := TIok.agg Tryz.underlying188 Tryz.type188 rfl rfl rfl rfl rfl rfl rfl rfl rfl (fun h => by first | rfl | (cases h; done)) (fun _ h => by cases h) (fun _ h => by cases h) (fun _ h => by cases h)
def ti189 : TI := ⟨true, 11, 48, .struct [(0, 12), (1, 12), (2, 162), (3, 184), (4, 5), (5, 5), (6, 185), (7, 186), (8, 137), (9, 187), (10, 188)], none, none, none⟩
theorem ti189_ok : TIok Tryz.prog 189 ti189 := TIok.none Tryz.underlying189 Tryz.type189 rfl (⟨_, rfl, rfl, by simp [show Tryz.prog.info? 5 = some Tryz.t5 from Tryz.type5, show Tryz.prog.info? 12 = some Tryz.t12 from Tryz.type12, show Tryz.prog.info? 137 = some Tryz.t137 from Tryz.type137, show Tryz.prog.info? 162 = some Tryz.t162 from Tryz.type162, show Tryz.prog.info? 184 = some Tryz.t184 from Tryz.type184, show Tryz.prog.info? 185 = some Tryz.t185 from Tryz.type185, show Tryz.prog.info? 186 = some Tryz.t186 from Tryz.type186, show Tryz.prog.info? 187 = some Tryz.t187 from Tryz.type187, show Tryz.prog.info? 188 = some Tryz.t188 from Tryz.type188]⟩) rfl rfl rfl (fun _ h => by cases h) (fun _ h => by cases h) rfl
def ti190 : TI := ⟨true, 11, 48, .struct [(0, 12), (1, 12), (2, 162), (3, 184), (4, 5), (5, 5), (6, 185), (7, 186), (8, 137), (9, 187), (10, 188)], none, none, none⟩
theorem ti190_ok : TIok Tryz.prog 190 ti190 := TIok.none Tryz.underlying190 Tryz.type190 rfl (⟨_, rfl, rfl, by simp [show Tryz.prog.info? 5 = some Tryz.t5 from Tryz.type5, show Tryz.prog.info? 12 = some Tryz.t12 from Tryz.type12, show Tryz.prog.info? 137 = some Tryz.t137 from Tryz.type137, show Tryz.prog.info? 162 = some Tryz.t162 from Tryz.type162, show Tryz.prog.info? 184 = some Tryz.t184 from Tryz.type184, show Tryz.prog.info? 185 = some Tryz.t185 from Tryz.type185, show Tryz.prog.info? 186 = some Tryz.t186 from Tryz.type186, show Tryz.prog.info? 187 = some Tryz.t187 from Tryz.type187, show Tryz.prog.info? 188 = some Tryz.t188 from Tryz.type188]⟩) rfl rfl rfl (fun _ h => by cases h) (fun _ h => by cases h) rfl
def D : TD := [(1, ti1), (2, ti2), (3, ti3), (4, ti4), (5, ti5), (6, ti6), (7, ti7), (8, ti8), (9, ti9), (10, ti10), (11, ti11), (12, ti12), (13, ti13), (14, ti14), (15, ti15), (16, ti16), (17, ti17), (18, ti18), (19, ti19), (20, ti20), (21, ti21), (22, ti22), (23, ti23), (24, ti24), (25, ti25), (26, ti26), (27, ti27), (28, ti28), (29, ti29), (30, ti30), (32, ti32), (33, ti33), (34, ti34), (36, ti36), (37, ti37), (39, ti39), (40, ti40), (41, ti41), (42, ti42), (44, ti44), (45, ti45), (46, ti46), (47, ti47), (48, ti48), (49, ti49), (50, ti50), (51, ti51), (52, ti52), (54, ti54), (55, ti55), (56, ti56), (57, ti57), (58, ti58), (59, ti59), (60, ti60), (62, ti62), (64, ti64), (65, ti65), (66, ti66), (67, ti67), (68, ti68), (69, ti69), (71, ti71), (72, ti72), (74, ti74), (75, ti75), (77, ti77), (79, ti79), (81, ti81), (82, ti82), (83, ti83), (84, ti84), (86, ti86), (87, ti87), (88, ti88), (89, ti89), (90, ti90), (91, ti91), (92, ti92), (93, ti93), (95, ti95), (96, ti96), (97, ti97), (98, ti98), (101, ti101), (102, ti102), (103, ti103), (105, ti105), (106, ti106), (107, ti107), (108, ti108), (109, ti109), (110, ti110), (111, ti111), (112, ti112), (113, ti113), (114, ti114), (115, ti115), (116, ti116), (117, ti117), (118, ti118), (119, ti119), (120, ti120), (121, ti121), (122, ti122), (124, ti124), (126, ti126), (127, ti127), (128, ti128), (129, ti129), (130, ti130), (131, ti131), (132, ti132), (133, ti133), (134, ti134), (135, ti135), (136, ti136), (137, ti137), (138, ti138), (139, ti139), (140, ti140), (141, ti141), (142, ti142), (143, ti143), (144, ti144), (145, ti145), (146, ti146), (147, ti147), (149, ti149), (150, ti150), (152, ti152), (153, ti153), (154, ti154), (155, ti155), (156, ti156), (158, ti158), (159, ti159), (160, ti160), (161, ti161), (162, ti162), (163, ti163), (164, ti164), (165, ti165), (166, ti166), (168, ti168), (169, ti169), (170, ti170), (171, ti171), (172, ti172), (173, ti173), (174, ti174), (175, ti175), (176, ti176), (177, ti177), (178, ti178), (179, ti179), (180, ti180), (181, ti181), (182, ti182), (183, ti183), (184, ti184), (185, ti185), (186, ti186), (187, ti187), (188, ti188), (189, ti189), (190, ti190)]
theorem D_ok : TDok Tryz.prog D := tdc ti1_ok <| tdc ti2_ok <| tdc ti3_ok <| tdc ti4_ok <| tdc ti5_ok <| tdc ti6_ok <| tdc ti7_ok <| tdc ti8_ok <| tdc ti9_ok <| tdc ti10_ok <| tdc ti11_ok <| tdc ti12_ok <| tdc ti13_ok <| tdc ti14_ok <| tdc ti15_ok <| tdc ti16_ok <| tdc ti17_ok <| tdc ti18_ok <| tdc ti19_ok <| tdc ti20_ok <| tdc ti21_ok <| tdc ti22_ok <| tdc ti23_ok <| tdc ti24_ok <| tdc ti25_ok <| tdc ti26_ok <| tdc ti27_ok <| tdc ti28_ok <| tdc ti29_ok <| tdc ti30_ok <| tdc ti32_ok <| tdc ti33_ok <| tdc ti34_ok <| tdc ti36_ok <| tdc ti37_ok <| tdc ti39_ok <| tdc ti40_ok <| tdc ti41_ok <| tdc ti42_ok <| tdc ti44_ok <| tdc ti45_ok <| tdc ti46_ok <| tdc ti47_ok <| tdc ti48_ok <| tdc ti49_ok <| tdc ti50_ok <| tdc ti51_ok <| tdc ti52_ok <| tdc ti54_ok <| tdc ti55_ok <| tdc ti56_ok <| tdc ti57_ok <| tdc ti58_ok <| tdc ti59_ok <| tdc ti60_ok <| tdc ti62_ok <| tdc ti64_ok <| tdc ti65_ok <| tdc ti66_ok <| tdc ti67_ok <| tdc ti68_ok <| tdc ti69_ok <| tdc ti71_ok <| tdc ti72_ok <| tdc ti74_ok <| tdc ti75_ok <| tdc ti77_ok <| tdc ti79_ok <| tdc ti81_ok <| tdc ti82_ok <| tdc ti83_ok <| tdc ti84_ok <| tdc ti86_ok <| tdc ti87_ok <| tdc ti88_ok <| tdc ti89_ok <| tdc ti90_ok <| tdc ti91_ok <| tdc ti92_ok <| tdc ti93_ok <| tdc ti95_ok <| tdc ti96_ok <| tdc ti97_ok <| tdc ti98_ok <| tdc ti101_ok <| tdc ti102_ok <| tdc ti103_ok <| tdc ti105_ok <| tdc ti106_ok <| tdc ti107_ok <| tdc ti108_ok <| tdc ti109_ok <| tdc ti110_ok <| tdc ti111_ok <| tdc ti112_ok <| tdc ti113_ok <| tdc ti114_ok <| tdc ti115_ok <| tdc ti116_ok <| tdc ti117_ok <| tdc ti118_ok <| tdc ti119_ok <| tdc ti120_ok <| tdc ti121_ok <| tdc ti122_ok <| tdc ti124_ok <| tdc ti126_ok <| tdc ti127_ok <| tdc ti128_ok <| tdc ti129_ok <| tdc ti130_ok <| tdc ti131_ok <| tdc ti132_ok <| tdc ti133_ok <| tdc ti134_ok <| tdc ti135_ok <| tdc ti136_ok <| tdc ti137_ok <| tdc ti138_ok <| tdc ti139_ok <| tdc ti140_ok <| tdc ti141_ok <| tdc ti142_ok <| tdc ti143_ok <| tdc ti144_ok <| tdc ti145_ok <| tdc ti146_ok <| tdc ti147_ok <| tdc ti149_ok <| tdc ti150_ok <| tdc ti152_ok <| tdc ti153_ok <| tdc ti154_ok <| tdc ti155_ok <| tdc ti156_ok <| tdc ti158_ok <| tdc ti159_ok <| tdc ti160_ok <| tdc ti161_ok <| tdc ti162_ok <| tdc ti163_ok <| tdc ti164_ok <| tdc ti165_ok <| tdc ti166_ok <| tdc ti168_ok <| tdc ti169_ok <| tdc ti170_ok <| tdc ti171_ok <| tdc ti172_ok <| tdc ti173_ok <| tdc ti174_ok <| tdc ti175_ok <| tdc ti176_ok <| tdc ti177_ok <| tdc ti178_ok <| tdc ti179_ok <| tdc ti180_ok <| tdc ti181_ok <| tdc ti182_ok <| tdc ti183_ok <| tdc ti184_ok <| tdc ti185_ok <| tdc ti186_ok <| tdc ti187_ok <| tdc ti188_ok <| tdc ti189_ok <| tdc ti190_ok <| td0
end Go.Proofs.YtoclmkbjgmgekaaGreatDoor
namespace Go.Proofs.YtoclmkbjgmgekaaGreatDoor
open Go.RowKit
theorem Sx.eta (u : Sx) : (⟨u.isList, u.atom, u.list⟩ : Sx) = u := by cases u; rfl
mutual
def nodesS : Sx -> Nat
 | ⟨_, _, l⟩ => 1 + nodesL l
def nodesL : List Sx -> Nat
 | [] => 0
 | x :: l => nodesS x + nodesL l
end
mutual
def cnt : Sx -> Int -> Int -> Int
 | ⟨b, _, l⟩, lim, d => if d < 1 ∨ lim < 1 then lim + 1 else if b = false then 1 else cnts l lim (d - 1) 1
def cnts : List Sx -> Int -> Int -> Int -> Int
 | [], _, _, n => n
 | x :: l, lim, d, n => if n <= lim then cnts l lim d (n + cnt x (lim - n) d) else n
end
mutual
def ckR : Sx -> Int
 | ⟨b, a, l⟩ => if b = false then (if 0 < l.length then 1 else if 65536 < a.size then 4 else 0) else if a ≠ ⟨#[]⟩ then 1 else ckRs l
def ckRs : List Sx -> Int
 | [] => 0
 | x :: l => if ckR x = 0 then ckRs l else ckR x
end
mutual
def shS : Sx -> Int
 | ⟨b, a, l⟩ => if (b = true /\ a ≠ ⟨#[]⟩) ∨ (b = false /\ 0 < l.length) then 1 else if 65536 < a.size then 4 else shSs l
def shSs : List Sx -> Int
 | [] => 0
 | x :: l => if shS x = 0 then shSs l else shS x
end
mutual
def madd : Sx -> Int -> Bool -> Int -> Int × Bool
 | ⟨b, _, l⟩, n, o, d => if b = false then (n + 1, o || decide (20000 < n + 1 ∨ 12 < d)) else madds l (n + 1) (o || decide (20000 < n + 1 ∨ 12 < d)) (d + 1)
def madds : List Sx -> Int -> Bool -> Int -> Int × Bool
 | [], n, o, _ => (n, o)
 | x :: l, n, o, d => if o = true then (n, o) else madds l (madd x n o d).1 (madd x n o d).2 d
end
def bl (s : ByteArray) : List UInt8 := s.data.toList
def decB (n : Int) : ByteArray := ⟨(Lib.itoa n).toArray⟩
mutual
def encB : Sx -> ByteArray
 | ⟨b, a, l⟩ => if b = false then decB a.size ++ ⟨#[58]⟩ ++ a else encBs l ⟨#[40]⟩ ++ ⟨#[41]⟩
def encBs : List Sx -> ByteArray -> ByteArray
 | [], s => s
 | x :: l, s => encBs l (s ++ encB x)
end
def numR : Bool -> Nat -> List UInt8 -> Res (Nat × List UInt8) Int
 | _, _, [] => .err 11
 | first, n, c :: l =>
  if c.toNat = 58 /\ first = false then .ok (n, l)
  else if c.toNat < 48 ∨ 57 < c.toNat ∨ (first = false /\ n = 0) then .err 12
  else if 65536 < 10 * n + (c.toNat - 48) then .err 12
  else numR false (10 * n + (c.toNat - 48)) l
def atomG (first : Bool) (n : Nat) (l : List UInt8) : Res (List UInt8 × List UInt8) Int :=
 match numR first n l with
 | .err e => .err e
 | .ok (n, r) => if r.length < n then .err 11 else .ok (r.take n, r.drop n)
def atomR (l : List UInt8) : Res (List UInt8 × List UInt8) Int := atomG true 0 l
def rdL (f : Nat -> List UInt8 -> Res (Sx × Nat × List UInt8) Int) : Nat -> Nat -> List UInt8 -> List Sx -> Res (List Sx × Nat × List UInt8) Int
 | 0, _, _, _ => .err 0
 | _ + 1, _, [], _ => .err 11
 | m + 1, k, c :: l, acc => if c.toNat = 41 then .ok (acc, k, l) else match f k (c :: l) with
  | .err e => .err e
  | .ok (x, k', l') => rdL f m k' l' (acc ++ [x])
def rdS : Nat -> Nat -> List UInt8 -> Res (Sx × Nat × List UInt8) Int
 | _, _, [] => .err 11
 | 0, _, _ :: _ => .err 12
 | d + 1, k, c :: l => if 20000 < k + 1 then .err 12 else if c.toNat ≠ 40 then match atomR (c :: l) with
   | .err e => .err e
   | .ok (a, r) => .ok (⟨false, ⟨a.toArray⟩, []⟩, k + 1, r)
  else match rdL (rdS d) (l.length + 1) (k + 1) l [] with
   | .err e => .err e
   | .ok (xs, k', r) => .ok (⟨true, ⟨#[]⟩, xs⟩, k', r)
def lim : Nat := 1073741824
end Go.Proofs.YtoclmkbjgmgekaaGreatDoor
namespace Go.Proofs.YtoclmkbjgmgekaaGreatDoor
open Go.RowKit
def addF (g : prodL [.bool, .str, .sl .sexp, .int .i64, .int .i64, .bool]) (K X : Kn) : Prop :=
 K (.tu []) [some (.cells [.int .i64 (madd ⟨g.1, g.2.1, g.2.2.1⟩ g.2.2.2.2.1 g.2.2.2.2.2.1 g.2.2.2.1).1, .bool (madd ⟨g.1, g.2.1, g.2.2.1⟩ g.2.2.2.2.1 g.2.2.2.2.2.1 g.2.2.2.1).2])]
end Go.Proofs.YtoclmkbjgmgekaaGreatDoor
namespace Go.Proofs.YtoclmkbjgmgekaaGreatDoor
open Go.RowKit
attribute [local irreducible] dfun dround
def H81 : List (Nat × Hint) := [(7, ⟨[((3, []), none)], [(1, .leaf), (2, .leaf), (3, .pt 0 0), (7, .leaf), (8, .leaf)], [.cells [.leaf, .leaf, .leaf]], [.int .i64, .int .i64, .int .i64, .int .i64, .bool, .str, .sl .sexp]⟩)]
def J81 : List (Nat × Hint) := [(2, ⟨[((3, []), none)], [(1, .leaf), (2, .leaf), (3, .pt 0 0), (14, .leaf)], [.cells [.leaf, .leaf, .leaf]], [.int .i64, .int .i64, .bool, .bool, .str, .sl .sexp]⟩), (10, ⟨[], [(7, .leaf)], [], [.int .i64]⟩)]
abbrev S81 : List Sh := [.ag [.leaf, .leaf, .leaf], .leaf, .leaf]
abbrev L81 : List Lf := [.bool, .str, .sl .sexp, .int .i64, .int .i64]
def spz81 (Z : prodL L81 -> Prop) : Sp := ⟨S81, L81, Z, fun g => .int .i64 (cnt ⟨g.1, g.2.1, g.2.2.1⟩ g.2.2.2.1 g.2.2.2.2.1), fun _ => none⟩
def F81_J7 (K : Kn) (n_6 : Int) : Prop :=
 K (.int .i64 n_6) []
def F81_B4 (K : Kn) (Z : prodL L81 -> Prop) (W4 : prodL [.int .i64, .int .i64, .int .i64, .int .i64, .bool, .str, .sl .sexp] -> Prop) (limit_3 depth_3 n_3 i_3 : Int) (x1_3 : Bool) (x2_3 : ByteArray) (x3_3 : List Sx) : Prop :=
 bif decide (i_3 < (x3_3.length : Int)) then (
  bif decide (n_3 <= limit_3) then (
  At x3_3 i_3 fun u5 =>
 Z (u5.isList, u5.atom, u5.list, IntKind.i64.wrap (limit_3 - n_3), IntKind.i64.wrap (depth_3 - 1), ()) /\
 W4 (limit_3, depth_3, IntKind.i64.wrap (n_3 + (cnt ⟨u5.isList, u5.atom, u5.list⟩ (IntKind.i64.wrap (limit_3 - n_3)) (IntKind.i64.wrap (depth_3 - 1)))), IntKind.i64.wrap (i_3 + 1), x1_3, x2_3, x3_3, ()))
 else (
  F81_J7 K n_3))
 else (
  F81_J7 K n_3)
def F81_L4 (K : Kn) (Z : prodL L81 -> Prop) (g : prodL [.int .i64, .int .i64, .int .i64, .int .i64, .bool, .str, .sl .sexp]) : Prop :=
 LoopW (γ := prodL [.int .i64, .int .i64, .int .i64, .int .i64, .bool, .str, .sl .sexp]) (fun V y => F81_B4 K Z V y.1 y.2.1 y.2.2.1 y.2.2.2.1 y.2.2.2.2.1 y.2.2.2.2.2.1 y.2.2.2.2.2.2.1) g
def F81_J2 (K : Kn) (Z : prodL L81 -> Prop) (limit_1 depth_1 : Int) (t_1 x1_1 : Bool) (x2_1 : ByteArray) (x3_1 : List Sx) : Prop :=
 bif t_1 then (
  K (.int .i64 (IntKind.i64.wrap (limit_1 + 1))) [])
 else (
  bif !x1_1 then (
  K (.int .i64 1) [])
 else (
  F81_L4 K Z (limit_1, depth_1, 1, 0, x1_1, x2_1, x3_1, ())))
def F81 (Z : prodL L81 -> Prop) (g : prodL L81) (K : Kn) : Prop :=
 bif decide (g.2.2.2.2.1 < 1) then (
  F81_J2 K Z g.2.2.2.1 g.2.2.2.2.1 true g.1 g.2.1 g.2.2.1)
 else (
  F81_J2 K Z g.2.2.2.1 g.2.2.2.2.1 (decide (g.2.2.2.1 < 1)) g.1 g.2.1 g.2.2.1)
theorem F81_eq (Z : prodL L81 -> Prop) (g : prodL L81) (K X : Kn) : F81 Z g K = dfun D (gamX [] [(81, true, spz81 Z)]) (isRaw []) H81 J81 47 [.tmp 6] (codeOf Tryz.f81) (argsT S81 L81 g) [] (settle0 K) X := by kernel_rfl
theorem F81_ok (Z : prodL L81 -> Prop) (hZ : (spz81 Z).Ok Tryz.prog 81 true) (g : prodL L81) (K X : Kn) (h : F81 Z g K) : FCalls Tryz.prog 81 (argsT S81 L81 g) [] K X :=
 FCalls.settle0 (dfun_sound (Γ := gamX [] [(81, true, spz81 Z)]) (mu := isRaw []) (H := H81) (J := J81) D_ok (gamX_ok (rs := []) (l := [(81, true, spz81 Z)]) (fun p hp => by cases hp) (by intro p hp; simp only [List.mem_cons, List.not_mem_nil, or_false] at hp; subst hp; exact hZ)) gamX_det rfl Tryz.func81 (c := codeOf Tryz.f81) rfl Tryz.ntmps81 Tryz.results81 (by unfold enters; rw [Tryz.func81]; kernel_rfl) (Nat.le_of_ble_eq_true (by kernel_rfl)) (c0 := 0) (Eq.mp (F81_eq Z g K X) h))
def H82 : List (Nat × Hint) := [(10, ⟨[((1, []), none)], [(1, .pt 0 0), (3, .leaf)], [.cells [.leaf, .leaf, .leaf]], [.int .i64, .bool, .str, .sl .sexp]⟩)]
def J82 : List (Nat × Hint) := []
abbrev S82 : List Sh := [.ag [.leaf, .leaf, .leaf]]
abbrev L82 : List Lf := [.bool, .str, .sl .sexp]
def spz82 (Z : prodL L82 -> Prop) : Sp := ⟨S82, L82, Z, fun g => .int .i64 (ckR ⟨g.1, g.2.1, g.2.2.1⟩), fun _ => none⟩
def F82_B2 (K : Kn) (Z : prodL L82 -> Prop) (W2 : prodL [.int .i64, .bool, .str, .sl .sexp] -> Prop) (i_1 : Int) (x1_1 : Bool) (x2_1 : ByteArray) (x3_1 : List Sx) : Prop :=
 bif decide (i_1 < (x3_1.length : Int)) then (
  At x3_1 i_1 fun u3 =>
 Z (u3.isList, u3.atom, u3.list, ()) /\
 bif !decide (ckR ⟨u3.isList, u3.atom, u3.list⟩ = 0) then (
  K (.int .i64 (ckR ⟨u3.isList, u3.atom, u3.list⟩)) [])
 else (
  W2 (IntKind.i64.wrap (i_1 + 1), x1_1, x2_1, x3_1, ())))
 else (
  K (.int .i64 0) [])
def F82_L2 (K : Kn) (Z : prodL L82 -> Prop) (g : prodL [.int .i64, .bool, .str, .sl .sexp]) : Prop :=
 LoopW (γ := prodL [.int .i64, .bool, .str, .sl .sexp]) (fun V y => F82_B2 K Z V y.1 y.2.1 y.2.2.1 y.2.2.2.1) g
def F82 (Z : prodL L82 -> Prop) (g : prodL L82) (K : Kn) : Prop :=
 bif !g.1 then (
  bif decide (0 < (g.2.2.1.length : Int)) then (
   K (.int .i64 1) [])
  else (
   bif decide (65536 < (g.2.1.size : Int)) then (
   K (.int .i64 4) [])
  else (
   K (.int .i64 0) [])))
 else (
  bif !decide (g.2.1 = (⟨#[]⟩ : ByteArray)) then (
  K (.int .i64 1) [])
 else (
  F82_L2 K Z (0, g.1, g.2.1, g.2.2.1, ())))
theorem F82_eq (Z : prodL L82 -> Prop) (g : prodL L82) (K X : Kn) : F82 Z g K = dfun D (gamX [] [(82, true, spz82 Z)]) (isRaw []) H82 J82 35 [.tmp 2] (codeOf Tryz.f82) (argsT S82 L82 g) [] (settle0 K) X := by kernel_rfl
theorem F82_ok (Z : prodL L82 -> Prop) (hZ : (spz82 Z).Ok Tryz.prog 82 true) (g : prodL L82) (K X : Kn) (h : F82 Z g K) : FCalls Tryz.prog 82 (argsT S82 L82 g) [] K X :=
 FCalls.settle0 (dfun_sound (Γ := gamX [] [(82, true, spz82 Z)]) (mu := isRaw []) (H := H82) (J := J82) D_ok (gamX_ok (rs := []) (l := [(82, true, spz82 Z)]) (fun p hp => by cases hp) (by intro p hp; simp only [List.mem_cons, List.not_mem_nil, or_false] at hp; subst hp; exact hZ)) gamX_det rfl Tryz.func82 (c := codeOf Tryz.f82) rfl Tryz.ntmps82 Tryz.results82 (by unfold enters; rw [Tryz.func82]; kernel_rfl) (Nat.le_of_ble_eq_true (by kernel_rfl)) (c0 := 0) (Eq.mp (F82_eq Z g K X) h))
def H94 : List (Nat × Hint) := [(6, ⟨[], [(31, .leaf), (32, .leaf), (33, .leaf)], [], [.sl .sexp, .int .i64, .int .i64]⟩)]
def J94 : List (Nat × Hint) := [(2, ⟨[((1, []), none)], [(1, .pt 0 0), (6, .leaf)], [.cells [.leaf, .leaf, .leaf]], [.bool, .bool, .str, .sl .sexp]⟩)]
abbrev S94 : List Sh := [.ag [.leaf, .leaf, .leaf]]
abbrev L94 : List Lf := [.bool, .str, .sl .sexp]
def spz94 (Z : prodL L94 -> Prop) : Sp := ⟨S94, L94, Z, fun g => .int .i64 (shS ⟨g.1, g.2.1, g.2.2.1⟩), fun _ => none⟩
def F94_B4 (K : Kn) (Z : prodL L94 -> Prop) (W4 : prodL [.sl .sexp, .int .i64, .int .i64] -> Prop) (t_3 : List Sx) (t2_3 t3_3 : Int) : Prop :=
 bif decide (t3_3 < t2_3) then (
  At t_3 t3_3 fun u5 =>
 Z (u5.isList, u5.atom, u5.list, ()) /\
 bif !decide (shS ⟨u5.isList, u5.atom, u5.list⟩ = 0) then (
  K (.int .i64 (shS ⟨u5.isList, u5.atom, u5.list⟩)) [])
 else (
  W4 (t_3, t2_3, IntKind.i64.wrap (t3_3 + 1), ())))
 else (
  K (.int .i64 0) [])
def F94_L4 (K : Kn) (Z : prodL L94 -> Prop) (g : prodL [.sl .sexp, .int .i64, .int .i64]) : Prop :=
 LoopW (γ := prodL [.sl .sexp, .int .i64, .int .i64]) (fun V y => F94_B4 K Z V y.1 y.2.1 y.2.2.1) g
def F94_J2 (K : Kn) (Z : prodL L94 -> Prop) (t_1 x1_1 : Bool) (x2_1 : ByteArray) (x3_1 : List Sx) : Prop :=
 bif t_1 then (
  K (.int .i64 1) [])
 else (
  bif decide (65536 < (x2_1.size : Int)) then (
   K (.int .i64 4) [])
  else (
   F94_L4 K Z (x3_1, (x3_1.length : Int), 0, ())))
def F94 (Z : prodL L94 -> Prop) (g : prodL L94) (K : Kn) : Prop :=
 bif g.1 then (
  bif !decide (g.2.1 = (⟨#[]⟩ : ByteArray)) then (
   F94_J2 K Z true g.1 g.2.1 g.2.2.1)
  else (
   bif !g.1 then (
    F94_J2 K Z (decide (0 < (g.2.2.1.length : Int))) g.1 g.2.1 g.2.2.1)
   else (
    F94_J2 K Z false g.1 g.2.1 g.2.2.1)))
 else (
  bif !g.1 then (
   F94_J2 K Z (decide (0 < (g.2.2.1.length : Int))) g.1 g.2.1 g.2.2.1)
  else (
   F94_J2 K Z false g.1 g.2.1 g.2.2.1))
theorem F94_eq (Z : prodL L94 -> Prop) (g : prodL L94) (K X : Kn) : F94 Z g K = dfun D (gamX [] [(94, true, spz94 Z)]) (isRaw []) H94 J94 43 [.tmp 2] (codeOf Tryz.f94) (argsT S94 L94 g) [] (settle0 K) X := by kernel_rfl
theorem F94_ok (Z : prodL L94 -> Prop) (hZ : (spz94 Z).Ok Tryz.prog 94 true) (g : prodL L94) (K X : Kn) (h : F94 Z g K) : FCalls Tryz.prog 94 (argsT S94 L94 g) [] K X :=
 FCalls.settle0 (dfun_sound (Γ := gamX [] [(94, true, spz94 Z)]) (mu := isRaw []) (H := H94) (J := J94) D_ok (gamX_ok (rs := []) (l := [(94, true, spz94 Z)]) (fun p hp => by cases hp) (by intro p hp; simp only [List.mem_cons, List.not_mem_nil, or_false] at hp; subst hp; exact hZ)) gamX_det rfl Tryz.func94 (c := codeOf Tryz.f94) rfl Tryz.ntmps94 Tryz.results94 (by unfold enters; rw [Tryz.func94]; kernel_rfl) (Nat.le_of_ble_eq_true (by kernel_rfl)) (c0 := 0) (Eq.mp (F94_eq Z g K X) h))
def H93 : List (Nat × Hint) := [(6, ⟨[], [(0, .pt 0 0), (2, .leaf), (31, .leaf), (32, .leaf), (33, .leaf)], [.cells [.leaf, .leaf]], [.int .i64, .sl .sexp, .int .i64, .int .i64, .int .i64, .bool]⟩)]
def J93 : List (Nat × Hint) := [(3, ⟨[((4, []), none)], [(0, .pt 0 0), (2, .leaf), (4, .pt 1 0), (23, .leaf)], [.cells [.leaf, .leaf], .cells [.leaf, .leaf, .leaf]], [.int .i64, .bool, .int .i64, .bool, .bool, .str, .sl .sexp]⟩), (4, ⟨[((4, []), none)], [(0, .pt 0 0), (2, .leaf), (4, .pt 1 0)], [.cells [.leaf, .leaf], .cells [.leaf, .leaf, .leaf]], [.int .i64, .int .i64, .bool, .bool, .str, .sl .sexp]⟩)]
abbrev S93 : List Sh := [.pt 0 0, .ag [.leaf, .leaf, .leaf], .leaf]
abbrev L93 : List Lf := [.bool, .str, .sl .sexp, .int .i64, .int .i64, .bool]
abbrev O93 : List ObSh := [.cells [.leaf, .leaf]]
def rwz93 (Z : prodL L93 -> Prop) : Raw := ⟨S93, O93, L93, 0, fun g K X => Z g /\ addF g K X⟩
def F93_B5 (K : Kn) (Z : prodL L93 -> Prop) (W5 : prodL [.int .i64, .sl .sexp, .int .i64, .int .i64, .int .i64, .bool] -> Prop) (level_4 : Int) (t_4 : List Sx) (t2_4 t3_4 o01_4 : Int) (o02_4 : Bool) : Prop :=
 bif decide (t3_4 < t2_4) then (
  At t_4 t3_4 fun u6 =>
 bif o02_4 then (
  K (.tu []) [some (.cells [.int .i64 o01_4, .bool o02_4])])
 else (
  Z (u6.isList, u6.atom, u6.list, IntKind.i64.wrap (level_4 + 1), o01_4, o02_4, ()) /\
 W5 (level_4, t_4, t2_4, IntKind.i64.wrap (t3_4 + 1), (madd ⟨u6.isList, u6.atom, u6.list⟩ o01_4 o02_4 (IntKind.i64.wrap (level_4 + 1))).1, (madd ⟨u6.isList, u6.atom, u6.list⟩ o01_4 o02_4 (IntKind.i64.wrap (level_4 + 1))).2, ())))
 else (
  K (.tu []) [some (.cells [.int .i64 o01_4, .bool o02_4])])
def F93_L5 (K : Kn) (Z : prodL L93 -> Prop) (g : prodL [.int .i64, .sl .sexp, .int .i64, .int .i64, .int .i64, .bool]) : Prop :=
 LoopW (γ := prodL [.int .i64, .sl .sexp, .int .i64, .int .i64, .int .i64, .bool]) (fun V y => F93_B5 K Z V y.1 y.2.1 y.2.2.1 y.2.2.2.1 y.2.2.2.2.1 y.2.2.2.2.2.1) g
def F93_J7 (K : Kn) (Z : prodL L93 -> Prop) (level_3 o01_3 : Int) (o02_3 x1_3 : Bool) (x2_3 : ByteArray) (x3_3 : List Sx) : Prop :=
 bif !x1_3 then (
  K (.tu []) [some (.cells [.int .i64 o01_3, .bool o02_3])])
 else (
  F93_L5 K Z (level_3, x3_3, (x3_3.length : Int), 0, o01_3, o02_3, ()))
def F93_J2 (K : Kn) (Z : prodL L93 -> Prop) (level_1 : Int) (t_1 : Bool) (o01_1 : Int) (o02_1 x1_1 : Bool) (x2_1 : ByteArray) (x3_1 : List Sx) : Prop :=
 bif t_1 then (
  F93_J7 K Z level_1 o01_1 true x1_1 x2_1 x3_1)
 else (
  F93_J7 K Z level_1 o01_1 o02_1 x1_1 x2_1 x3_1)
def F93 (Z : prodL L93 -> Prop) (g : prodL L93) (K : Kn) : Prop :=
 bif decide (20000 < IntKind.i64.wrap (g.2.2.2.2.1 + 1)) then (
  F93_J2 K Z g.2.2.2.1 true (IntKind.i64.wrap (g.2.2.2.2.1 + 1)) g.2.2.2.2.2.1 g.1 g.2.1 g.2.2.1)
 else (
  F93_J2 K Z g.2.2.2.1 (decide (12 < g.2.2.2.1)) (IntKind.i64.wrap (g.2.2.2.2.1 + 1)) g.2.2.2.2.2.1 g.1 g.2.1 g.2.2.1)
theorem F93_eq (Z : prodL L93 -> Prop) (g : prodL L93) (K X : Kn) : F93 Z g K = dfun D (gamX [(93, rwz93 Z)] []) (isRaw [(93, rwz93 Z)]) H93 J93 47 [] (codeOf Tryz.f93) (argsT S93 L93 g) (storeT S93 O93 L93 g) (settleD (storeT S93 O93 L93 g).length 0 K) X 0 := by kernel_rfl
theorem F93_ok (Z : prodL L93 -> Prop) (hZ : (rwz93 Z).Ok Tryz.prog 93) (g : prodL L93) (K X : Kn) (h : F93 Z g K) : FCalls Tryz.prog 93 (argsT S93 L93 g) (storeT S93 O93 L93 g) K X 0 :=
 FCalls.settleD (dfun_sound (Γ := gamX [(93, rwz93 Z)] []) (mu := isRaw [(93, rwz93 Z)]) (H := H93) (J := J93) D_ok (gamX_ok (rs := [(93, rwz93 Z)]) (l := []) (by intro p hp; simp only [List.mem_cons, List.not_mem_nil, or_false] at hp; subst hp; exact hZ) (fun p hp => by cases hp)) gamX_det rfl Tryz.func93 (c := codeOf Tryz.f93) rfl Tryz.ntmps93 (rs := []) Tryz.results93 (by unfold enters; rw [Tryz.func93]; kernel_rfl) (Nat.le_of_ble_eq_true (by kernel_rfl)) (X := X) (c0 := 0) (Eq.mp (F93_eq Z g K X) h))
end Go.Proofs.YtoclmkbjgmgekaaGreatDoor
namespace Go.Proofs.YtoclmkbjgmgekaaGreatDoor
open Go.RowKit
theorem wrap64 {n : Int} (h1 : -9223372036854775808 <= n) (h2 : n < 9223372036854775808) : IntKind.i64.wrap n = n := by
 simp [IntKind.wrap, IntKind.bits, IntKind.signed]; omega
theorem At_of {α : Type} {l : List α} {n : Nat} {K : α -> Prop} (h : n < l.length) (hK : K l[n]) : At l (n : Int) K :=
 ⟨by omega, l[n], by simp [h], hK⟩
theorem wrapS {n N : Nat} (h : n < N) (hN : N <= 4294967296) : IntKind.i64.wrap ((n : Int) + 1) = ((n + 1 : Nat) : Int) := by
 rw [wrap64 (by omega) (by omega)]; rfl
theorem LoopW.fold {α σ γ : Type} {body : (γ -> Prop) -> γ -> Prop} {g : γ} (l : List α) (S : Nat -> σ -> γ) (P : List α -> Nat -> σ -> Prop) {a0 : σ} (hg : g = S 0 a0) (h0 : P l 0 a0)
  (hn : ∀ a, P [] l.length a -> ∀ W, body W (S l.length a)) (hc : ∀ n (h : n < l.length) r a, r = l.drop (n + 1) -> P (l[n] :: r) n a -> ∀ W : γ -> Prop, (∀ a', P r (n + 1) a' -> W (S (n + 1) a')) -> body W (S n a)) : LoopW body g := by
 rw [hg]
 have key : ∀ k n a, n + k = l.length -> P (l.drop n) n a -> loopN body (k + 1) (S n a) := by
  intro k
  induction k with
  | zero =>
   intro n a hk hp
   have : n = l.length := by omega
   subst this
   rw [List.drop_length] at hp
   exact hn a hp _
  | succ k ih =>
   intro n a hk hp
   have hlt : n < l.length := by omega
   rw [List.drop_eq_getElem_cons hlt] at hp
   exact hc n hlt _ a rfl hp _ fun a' hp' => ih (n + 1) a' (by omega) hp'
 exact ⟨l.length + 1, key l.length 0 a0 (by omega) h0⟩
theorem mem_bk : ∀ {l : List Sx} {x : Sx}, x ∈ l -> bkS x <= bkSs l
 | y :: l, x, h => by
  simp only [bkSs]
  rcases List.mem_cons.1 h with rfl | h
  . omega
  . have := mem_bk h; omega
theorem mem_nodes : ∀ {l : List Sx} {x : Sx}, x ∈ l -> nodesS x <= nodesL l
 | y :: l, x, h => by
  simp only [nodesL]
  rcases List.mem_cons.1 h with rfl | h
  . omega
  . have := mem_nodes h; omega
theorem bk_pos (x : Sx) : 3 <= bkS x := by cases x; simp only [bkS]; omega
theorem len_bk : ∀ (l : List Sx), 3 * l.length <= bkSs l
 | [] => by simp [bkSs]
 | x :: l => by
  have := len_bk l
  have := bk_pos x
  simp only [bkSs, List.length_cons]; omega
theorem lim_eq : lim = 1073741824 := rfl
theorem small {b : Bool} {a : ByteArray} {l : List Sx} (h : bkS ⟨b, a, l⟩ <= lim) : l.length <= 4294967296 /\ a.size <= lim /\ bkSs l <= lim /\ ∀ x ∈ l, bkS ⟨x.isList, x.atom, x.list⟩ <= lim /\ nodesS ⟨x.isList, x.atom, x.list⟩ < nodesS ⟨b, a, l⟩ := by
 simp only [bkS] at h
 have := len_bk l
 rw [lim_eq] at *
 refine ⟨by omega, by omega, by omega, fun x hx => ?_⟩
 rw [Sx.eta]
 have := mem_bk hx
 have := mem_nodes hx
 simp only [nodesS]
 exact ⟨by omega, by omega⟩
theorem bif_not {b : Bool} {p q : Prop} : (bif !b then p else q) = bif b then q else p := by cases b <;> rfl
theorem bif_dec {c : Prop} [Decidable c] {p q : Prop} : (bif decide c then p else q) = if c then p else q := by by_cases h : c <;> simp [h]
theorem F82_is {Z : prodL L82 -> Prop} {b : Bool} {a : ByteArray} {l : List Sx} {K : Kn} (hs : l.length <= 4294967296) (hZ : ∀ x ∈ l, Z (x.isList, x.atom, x.list, ())) (h : K (.int .i64 (ckR ⟨b, a, l⟩)) []) : F82 Z (b, a, l, ()) K := by
 unfold F82
 simp only [ckR] at h
 dsimp only [Lf.ty, prodL] at h ⊢
 simp only [bif_not, bif_dec]
 cases b
 . simp only [if_true, cond_false] at h ⊢
   by_cases h1 : 0 < l.length
   . rw [if_pos h1] at h; rw [if_pos (by omega)]; exact h
   . rw [if_neg h1] at h; rw [if_neg (by omega)]
     by_cases h2 : 65536 < a.size
     . rw [if_pos h2] at h; rw [if_pos (by omega)]; exact h
     . rw [if_neg h2] at h; rw [if_neg (by omega)]; exact h
 . simp only [Bool.true_eq_false, if_false, cond_true] at h ⊢
   by_cases h1 : a = ⟨#[]⟩
   . rw [if_neg (by simpa using h1)] at h; rw [if_pos h1]
     unfold F82_L2
     refine LoopW.fold l (fun n (_ : Unit) => ((n : Int), true, a, l, ())) (fun r _ _ => K (.int .i64 (ckRs r)) []) (a0 := ()) rfl h (fun _ hp W => ?_) (fun n hn r _ hr hp W hW => ?_)
     . unfold F82_B2
       rw [bif_dec, if_neg (by dsimp only; omega)]
       exact hp
     . unfold F82_B2
       rw [bif_dec, if_pos (by dsimp only; omega)]
       refine At_of hn ⟨hZ _ (List.getElem_mem hn), ?_⟩
       rw [Sx.eta, bif_not, bif_dec]
       simp only [ckRs] at hp
       by_cases h2 : ckR l[n] = 0
       . rw [if_pos h2] at hp ⊢; rw [wrapS hn hs]; exact hW () hp
       . rw [if_neg h2] at hp ⊢; exact hp
   . rw [if_pos (by simpa using h1)] at h; rw [if_neg h1]; exact h
def sp82 : Sp := spz82 fun g => bkS ⟨g.1, g.2.1, g.2.2.1⟩ <= lim
theorem sp82_all : ∀ n, (spz82 fun g => bkS ⟨g.1, g.2.1, g.2.2.1⟩ <= lim /\ nodesS ⟨g.1, g.2.1, g.2.2.1⟩ < n).Ok Tryz.prog 82 true
 | 0 => ⟨fun _ _ _ h _ => absurd h.2 (Nat.not_lt_zero _), fun _ _ _ => rfl, fun _ => rfl, fun _ _ => ⟨rfl, rfl⟩⟩
 | n + 1 => ⟨fun g _ X hp h => F82_ok _ (sp82_all n) _ _ X (F82_is (small hp.1).1 (fun x hx => ⟨((small hp.1).2.2.2 x hx).1, by have := ((small hp.1).2.2.2 x hx).2; have := hp.2; dsimp only at *; omega⟩) h), fun _ _ _ => rfl, fun _ => rfl, fun _ _ => ⟨rfl, rfl⟩⟩
theorem sp82_ok : sp82.Ok Tryz.prog 82 true :=
 ⟨fun g K X hp h => (sp82_all (nodesS ⟨g.1, g.2.1, g.2.2.1⟩ + 1)).calls g K X ⟨hp, Nat.lt_succ_self _⟩ h, fun _ _ _ => rfl, fun _ => rfl, fun _ _ => ⟨rfl, rfl⟩⟩
theorem F94_is {Z : prodL L94 -> Prop} {b : Bool} {a : ByteArray} {l : List Sx} {K : Kn} (hs : l.length <= 4294967296) (hZ : ∀ x ∈ l, Z (x.isList, x.atom, x.list, ())) (h : K (.int .i64 (shS ⟨b, a, l⟩)) []) : F94 Z (b, a, l, ()) K := by
 have hloop : (65536 < a.size -> K (.int .i64 4) []) -> (¬ 65536 < a.size -> K (.int .i64 (shSs l)) []) -> bif decide (65536 < (a.size : Int)) then K (.int .i64 4) [] else F94_L4 K Z (l, (l.length : Int), 0, ()) := fun h1 h2 => by
  rw [bif_dec]
  split
  . exact h1 (by omega)
  . unfold F94_L4
    refine LoopW.fold l (fun n (_ : Unit) => (l, (l.length : Int), (n : Int), ())) (fun r _ _ => K (.int .i64 (shSs r)) []) (a0 := ()) rfl (h2 (by omega)) (fun _ hp W => ?_) (fun n hn r _ hr hp W hW => ?_)
    . unfold F94_B4
      rw [bif_dec, if_neg (by dsimp only; omega)]
      exact hp
    . unfold F94_B4
      rw [bif_dec, if_pos (by dsimp only; omega)]
      refine At_of hn ⟨hZ _ (List.getElem_mem hn), ?_⟩
      rw [Sx.eta, bif_not, bif_dec]
      simp only [shSs] at hp
      by_cases h2 : shS l[n] = 0
      . rw [if_pos h2] at hp ⊢; rw [wrapS hn hs]; exact hW () hp
      . rw [if_neg h2] at hp ⊢; exact hp
 unfold F94
 simp only [shS] at h
 dsimp only [Lf.ty, prodL] at h ⊢
 cases b
 . simp only [Bool.false_eq_true, false_and, true_and, false_or, cond_false, Bool.not_false, cond_true, F94_J2, bif_dec] at h ⊢
   by_cases h1 : 0 < l.length
   . rw [if_pos h1] at h; rw [if_pos (by omega)]; exact h
   . rw [if_neg h1] at h; rw [if_neg (by omega)]
     have := hloop (fun h2 => by rw [if_pos h2] at h; exact h) (fun h2 => by rw [if_neg h2] at h; exact h)
     rwa [bif_dec] at this
 . simp only [true_and, Bool.true_eq_false, false_and, or_false, cond_false, Bool.not_true, cond_true, F94_J2, bif_not, bif_dec] at h ⊢
   by_cases h1 : a = ⟨#[]⟩
   . rw [if_neg (by simpa using h1)] at h; rw [if_pos h1]
     have := hloop (fun h2 => by rw [if_pos h2] at h; exact h) (fun h2 => by rw [if_neg h2] at h; exact h)
     rwa [bif_dec] at this
   . rw [if_pos (by simpa using h1)] at h; rw [if_neg h1]; exact h
def sp94 : Sp := spz94 fun g => bkS ⟨g.1, g.2.1, g.2.2.1⟩ <= lim
theorem sp94_all : ∀ n, (spz94 fun g => bkS ⟨g.1, g.2.1, g.2.2.1⟩ <= lim /\ nodesS ⟨g.1, g.2.1, g.2.2.1⟩ < n).Ok Tryz.prog 94 true
 | 0 => ⟨fun _ _ _ h _ => absurd h.2 (Nat.not_lt_zero _), fun _ _ _ => rfl, fun _ => rfl, fun _ _ => ⟨rfl, rfl⟩⟩
 | n + 1 => ⟨fun g _ X hp h => F94_ok _ (sp94_all n) _ _ X (F94_is (small hp.1).1 (fun x hx => ⟨((small hp.1).2.2.2 x hx).1, by have := ((small hp.1).2.2.2 x hx).2; have := hp.2; dsimp only at *; omega⟩) h), fun _ _ _ => rfl, fun _ => rfl, fun _ _ => ⟨rfl, rfl⟩⟩
theorem sp94_ok : sp94.Ok Tryz.prog 94 true :=
 ⟨fun g K X hp h => (sp94_all (nodesS ⟨g.1, g.2.1, g.2.2.1⟩ + 1)).calls g K X ⟨hp, Nat.lt_succ_self _⟩ h, fun _ _ _ => rfl, fun _ => rfl, fun _ _ => ⟨rfl, rfl⟩⟩
end Go.Proofs.YtoclmkbjgmgekaaGreatDoor
namespace Go.Proofs.YtoclmkbjgmgekaaGreatDoor
open Go.RowKit
mutual
theorem cnt_le : ∀ (x : Sx) (lim d : Int), 0 <= lim -> 1 <= cnt x lim d /\ cnt x lim d <= lim + 1
 | ⟨b, a, l⟩, lim, d, h => by
  simp only [cnt]
  split
  . omega
  . split
    . omega
    . rename_i h1 _
      exact cnts_le l lim (d - 1) 1 (by omega) (by omega)
theorem cnts_le : ∀ (l : List Sx) (lim d n : Int), 1 <= n -> n <= lim + 1 -> 1 <= cnts l lim d n /\ cnts l lim d n <= lim + 1
 | [], lim, d, n, h1, h2 => by simp only [cnts]; omega
 | x :: l, lim, d, n, h1, h2 => by
  simp only [cnts]
  split
  . have := cnt_le x (lim - n) d (by omega)
    exact cnts_le l lim d _ (by omega) (by omega)
  . omega
end
theorem sub1 {d N : Int} (h1 : 1 <= d) (h2 : d <= N) : 0 <= d - 1 /\ d - 1 <= N := ⟨by omega, by omega⟩
def cntP (x : Sx) (m d : Int) : Prop := bkS x <= lim /\ (0 <= m /\ m <= 1099511627776) /\ 0 <= d /\ d <= 1099511627776
def cntPre (g : prodL L81) : Prop := cntP ⟨g.1, g.2.1, g.2.2.1⟩ g.2.2.2.1 g.2.2.2.2.1
theorem F81_is {Z : prodL L81 -> Prop} {b : Bool} {a : ByteArray} {l : List Sx} {m d : Int} {K : Kn} (hs : l.length <= 4294967296) (hm : 0 <= m /\ m <= 1099511627776) (hd : 0 <= d /\ d <= 1099511627776)
  (hZ : ∀ x ∈ l, ∀ k : Int, 0 <= k -> k <= m -> 1 <= d -> Z (x.isList, x.atom, x.list, k, d - 1, ())) (h : K (.int .i64 (cnt ⟨b, a, l⟩ m d)) []) : F81 Z (b, a, l, m, d, ()) K := by
 unfold F81
 simp only [cnt] at h
 dsimp only [Lf.ty, prodL] at h ⊢
 simp only [F81_J2, bif_dec]
 by_cases h1 : d < 1
 . rw [if_pos (.inl h1)] at h
   simp only [if_pos h1, cond_true]
   rw [wrap64 (by omega) (by omega)]; exact h
 simp only [if_neg h1]
 by_cases h2 : m < 1
 . rw [if_pos (.inr h2)] at h
   simp only [if_pos h2]
   rw [wrap64 (by omega) (by omega)]; exact h
 rw [if_neg (by omega)] at h
 simp only [if_neg h2, bif_not]
 cases b
 . exact h
 simp only [Bool.true_eq_false, if_false, cond_true] at h ⊢
 unfold F81_L4
 refine LoopW.fold l (fun n (c : Int) => (m, d, c, (n : Int), true, a, l, ())) (fun r _ c => K (.int .i64 (cnts r m (d - 1) c)) [] /\ 1 <= c /\ c <= m + 1) rfl ⟨h, by omega, by omega⟩ (fun c hp W => ?_) (fun n hn r c hr hp W hW => ?_)
 . unfold F81_B4
   rw [bif_dec, if_neg (by dsimp only; omega)]
   exact hp.1
 . unfold F81_B4
   obtain ⟨hp, hc1, hc2⟩ := hp
   rw [bif_dec, if_pos (by dsimp only; omega), bif_dec]
   simp only [cnts] at hp
   dsimp only
   by_cases h3 : c <= m
   . rw [if_pos h3] at hp ⊢
     have := cnt_le l[n] (m - c) (d - 1) (by omega)
     refine At_of hn ?_
     rw [wrap64 (n := m - c) (by omega) (by omega), wrap64 (n := d - 1) (by omega) (by omega), Sx.eta, wrap64 (by omega) (by omega), wrapS hn hs]
     exact ⟨hZ _ (List.getElem_mem hn) _ (by omega) (by omega) (by omega), hW _ ⟨hp, by omega, by omega⟩⟩
   . rw [if_neg h3] at hp ⊢
     exact hp
def sp81 : Sp := spz81 cntPre
theorem sp81_all : ∀ n, (spz81 fun g => cntPre g /\ nodesS ⟨g.1, g.2.1, g.2.2.1⟩ < n).Ok Tryz.prog 81 true
 | 0 => ⟨fun _ _ _ h _ => absurd h.2 (Nat.not_lt_zero _), fun _ _ _ => rfl, fun _ => rfl, fun _ _ => ⟨rfl, rfl⟩⟩
 | n + 1 => ⟨by
   rintro ⟨b, a, l, m, d, ⟨⟩⟩ K X ⟨⟨q1, ⟨q2, q3⟩, q4, q5⟩, q6⟩ h
   refine F81_ok _ (sp81_all n) _ _ X (F81_is (small q1).1 ⟨q2, q3⟩ ⟨q4, q5⟩ (fun x hx k k1 k2 k3 => ?_) h)
   obtain ⟨s1, s2⟩ := (small q1).2.2.2 x hx
   dsimp only [Lf.ty] at *
   exact ⟨⟨s1, ⟨k1, (by omega : k <= 1099511627776)⟩, sub1 k3 q5⟩, (by omega : nodesS ⟨x.isList, x.atom, x.list⟩ < n)⟩, fun _ _ _ => rfl, fun _ => rfl, fun _ _ => ⟨rfl, rfl⟩⟩
theorem sp81_ok : sp81.Ok Tryz.prog 81 true :=
 ⟨fun g K X hp h => (sp81_all (nodesS ⟨g.1, g.2.1, g.2.2.1⟩ + 1)).calls g K X ⟨hp, Nat.lt_succ_self _⟩ h, fun _ _ _ => rfl, fun _ => rfl, fun _ _ => ⟨rfl, rfl⟩⟩
mutual
theorem madd_le : ∀ (x : Sx) (n : Int) (o : Bool) (d : Int), n <= (madd x n o d).1 /\ (madd x n o d).1 <= n + nodesS x
 | ⟨b, a, l⟩, n, o, d => by
  simp only [madd, nodesS]
  split
  . simp only; omega
  . have := madds_le l (n + 1) (o || decide (20000 < n + 1 ∨ 12 < d)) (d + 1)
    omega
theorem madds_le : ∀ (l : List Sx) (n : Int) (o : Bool) (d : Int), n <= (madds l n o d).1 /\ (madds l n o d).1 <= n + nodesL l
 | [], n, o, d => by simp [madds, nodesL]
 | x :: l, n, o, d => by
  simp only [madds, nodesL]
  split
  . simp only; omega
  . have h1 := madd_le x n o d
    have h2 := madds_le l (madd x n o d).1 (madd x n o d).2 d
    omega
end
mutual
theorem nodes_bk : ∀ (x : Sx), nodesS x <= bkS x
 | ⟨b, a, l⟩ => by have := nodesL_bk l; simp only [nodesS, bkS]; omega
theorem nodesL_bk : ∀ (l : List Sx), nodesL l <= bkSs l
 | [] => by simp [nodesL, bkSs]
 | x :: l => by have := nodes_bk x; have := nodesL_bk l; simp only [nodesL, bkSs]; omega
end
def addP (x : Sx) (d n : Int) : Prop := bkS x <= lim /\ (0 <= n /\ n + nodesS x <= 1099511627776) /\ 0 <= d /\ d + nodesS x <= 1099511627776
def addPre (g : prodL L93) : Prop := addP ⟨g.1, g.2.1, g.2.2.1⟩ g.2.2.2.1 g.2.2.2.2.1
theorem F93_is {Z : prodL L93 -> Prop} {b : Bool} {a : ByteArray} {l : List Sx} {d n : Int} {o : Bool} {K X : Kn} (hs : l.length <= 4294967296) (hn : 0 <= n /\ n + 1 + nodesL l <= 1099511627776) (hd : 0 <= d /\ d + 1 + nodesL l <= 1099511627776)
  (hZ : ∀ x ∈ l, ∀ k o', n <= k -> k + nodesS x <= 1099511627776 -> Z (x.isList, x.atom, x.list, d + 1, k, o', ())) (h : addF (b, a, l, d, n, o, ()) K X) : F93 Z (b, a, l, d, n, o, ()) K := by
 unfold addF at h
 simp only [madd] at h
 have hrest : ∀ o2, o2 = (o || decide (20000 < n + 1 ∨ 12 < d)) -> F93_J7 K Z d (n + 1) o2 b a l := fun o2 ho => by
  rw [<- ho] at h
  unfold F93_J7
  rw [bif_not]
  cases b
  . simp only [if_true] at h
    exact h
  simp only [Bool.true_eq_false, if_false, cond_true] at h ⊢
  unfold F93_L5
  refine LoopW.fold l (fun i (c : Int × Bool) => (d, l, (l.length : Int), (i : Int), c.1, c.2, ())) (fun r _ c => K (.tu []) [some (.cells [.int .i64 (madds r c.1 c.2 (d + 1)).1, .bool (madds r c.1 c.2 (d + 1)).2])] /\ n <= c.1 /\ c.1 + nodesL r <= 1099511627776) (a0 := (n + 1, o2)) rfl ⟨h, by dsimp only; omega, by dsimp only; omega⟩ (fun c hp W => ?_) (fun i hi r c hr hp W hW => ?_)
  . unfold F93_B5
    rw [bif_dec, if_neg (by dsimp only; omega)]
    exact hp.1
  . unfold F93_B5
    obtain ⟨hp, hc1, hc2⟩ := hp
    rw [bif_dec, if_pos (by dsimp only; omega)]
    refine At_of hi ?_
    simp only [madds] at hp
    simp only [nodesL] at hc2
    dsimp only
    cases ho2 : c.2
    . rw [ho2] at hp
      simp only [Bool.false_eq_true, if_false, cond_false] at hp ⊢
      rw [wrap64 (n := d + 1) (by omega) (by omega), Sx.eta, wrapS hi hs]
      have := madd_le l[i] c.1 false (d + 1)
      exact ⟨hZ _ (List.getElem_mem hi) _ _ hc1 (by omega), hW (_, _) ⟨hp, by dsimp only; omega, by dsimp only; omega⟩⟩
    . rw [ho2] at hp
      simp only [if_true, cond_true] at hp ⊢
      exact hp
 unfold F93
 dsimp only [Lf.ty, prodL]
 rw [wrap64 (n := n + 1) (by omega) (by omega)]
 simp only [bif_dec, F93_J2, cond_true]
 by_cases h1 : 20000 < n + 1
 . rw [if_pos h1]
   exact hrest true (by rw [decide_eq_true (.inl h1), Bool.or_true])
 . rw [if_neg h1]
   by_cases h2 : 12 < d
   . rw [if_pos h2]; exact hrest true (by rw [decide_eq_true (.inr h2), Bool.or_true])
   . rw [if_neg h2]; exact hrest o (by rw [decide_eq_false (by omega), Bool.or_false])
def rw93 : Raw := rwz93 addPre
theorem rw93_all : ∀ n, (rwz93 fun g => addPre g /\ nodesS ⟨g.1, g.2.1, g.2.2.1⟩ < n).Ok Tryz.prog 93
 | 0 => fun _ _ _ h => absurd h.1.2 (Nat.not_lt_zero _)
 | n + 1 => by
  rintro ⟨b, a, l, d, m, o, ⟨⟩⟩ K X ⟨⟨⟨p1, ⟨p2, p3⟩, p4, p5⟩, p6⟩, h⟩
  obtain ⟨s1, _, _, s4⟩ := small p1
  simp only [nodesS] at p3 p5
  refine F93_ok _ (rw93_all n) _ K X (F93_is (X := X) s1 (by dsimp only [Lf.ty] at *; omega) (by dsimp only [Lf.ty] at *; omega) (fun x hx k o' k1 k2 => ?_) h)
  obtain ⟨q1, q2⟩ := s4 x hx
  have := mem_nodes hx
  have e : nodesS ⟨x.isList, x.atom, x.list⟩ = nodesS x := by rw [Sx.eta]
  dsimp only [Lf.ty] at *
  refine ⟨⟨q1, ⟨?_, ?_⟩, ?_, ?_⟩, ?_⟩ <;> (try dsimp only) <;> (try rw [e]) <;> omega
theorem rw93_ok : rw93.Ok Tryz.prog 93 := fun g K X h => rw93_all (nodesS ⟨g.1, g.2.1, g.2.2.1⟩ + 1) g K X ⟨⟨h.1, Nat.lt_succ_self _⟩, h.2⟩
end Go.Proofs.YtoclmkbjgmgekaaGreatDoor
namespace Go.Proofs.YtoclmkbjgmgekaaGreatDoor
open Go.RowKit
def headR : List UInt8 -> Res UInt8 Int
 | [] => .err 11
 | c :: _ => .ok c
def inP (a b n : Int) : Prop := a <= n /\ n <= b
def atP (s : ByteArray) (p : Int) : Prop := 0 <= p /\ p <= (s.size : Int) /\ s.size <= 2 * lim
def nextPre (g : prodL [.str, .int .i64, .int .i64]) : Prop := atP g.1 g.2.1
def nextF (g : prodL [.str, .int .i64, .int .i64]) (K X : Kn) : Prop :=
 Res.go (headR ((bl g.1).drop g.2.1.toNat)) (fun a => K (.int .u8 (a.toNat : Int)) [some (.cells [.str g.1, .int .i64 g.2.1, .int .i64 g.2.2.1])]) (fun e => X (.ic 93 (.ag [.int .i64 e])) [some (.cells [.str g.1, .int .i64 g.2.1, .int .i64 g.2.2.1])])
def numF (g : prodL [.str, .int .i64, .int .i64]) (K X : Kn) : Prop :=
 Res.go (numR true 0 ((bl g.1).drop g.2.1.toNat)) (fun a => K (.int .i64 (a.1 : Int)) [some (.cells [.str g.1, .int .i64 ((g.1.size : Int) - (a.2.length : Int)), .int .i64 g.2.2.1])]) (fun e => ∀ p : Int, X (.ic 93 (.ag [.int .i64 e])) [some (.cells [.str g.1, .int .i64 p, .int .i64 g.2.2.1])])
def atomPre (g : prodL [.str, .int .i64, .int .i64, .int .i64]) : Prop := atP g.1 g.2.1 /\ g.2.2.2.1 = 0
def atomF (g : prodL [.str, .int .i64, .int .i64, .int .i64]) (K _ : Kn) : Prop :=
 Res.go (atomR ((bl g.1).drop g.2.1.toNat)) (fun a => K (.tu [.str (⟨a.1.toArray⟩ : ByteArray), .ag [.str g.1, .int .i64 ((g.1.size : Int) - (a.2.length : Int)), .int .i64 g.2.2.1, .int .i64 0]]) []) (fun e => ∀ p : Int, K (.tu [.str (⟨#[]⟩ : ByteArray), .ag [.str g.1, .int .i64 p, .int .i64 g.2.2.1, .int .i64 e]]) [])
def readPre (g : prodL [.str, .int .i64, .int .i64, .int .i64, .int .i64]) : Prop := atP g.1 g.2.1 /\ inP 0 20000 g.2.2.1 /\ g.2.2.2.1 = 0 /\ inP 0 12 g.2.2.2.2.1
def readF (g : prodL [.str, .int .i64, .int .i64, .int .i64, .int .i64]) (K _ : Kn) : Prop :=
 Res.go (rdS g.2.2.2.2.1.toNat (20000 - g.2.2.1).toNat ((bl g.1).drop g.2.1.toNat)) (fun a => K (.tu [.ag [.bool a.1.isList, .str a.1.atom, .sl false .sexp a.1.list], .ag [.str g.1, .int .i64 ((g.1.size : Int) - (a.2.2.length : Int)), .int .i64 (20000 - (a.2.1 : Int)), .int .i64 0]]) [])
  (fun e => ∀ (y : Sx) (p m : Int), K (.tu [.ag [.bool y.isList, .str y.atom, .sl false .sexp y.list], .ag [.str g.1, .int .i64 p, .int .i64 m, .int .i64 e]]) [])
def sexpPre (g : prodL [.int .i64, .str, .int .i64, .int .i64]) : Prop := inP 1 13 g.1 /\ atP g.2.1 g.2.2.1 /\ inP 0 20000 g.2.2.2.1
def sexpF (g : prodL [.int .i64, .str, .int .i64, .int .i64]) (K X : Kn) : Prop :=
 Res.go (rdS (13 - g.1).toNat g.2.2.2.1.toNat ((bl g.2.1).drop g.2.2.1.toNat)) (fun a => K (.ag [.bool a.1.isList, .str a.1.atom, .sl false .sexp a.1.list]) [some (.cells [.str g.2.1, .int .i64 ((g.2.1.size : Int) - (a.2.2.length : Int)), .int .i64 (a.2.1 : Int)])])
  (fun e => ∀ (p m : Int), X (.ic 93 (.ag [.int .i64 e])) [some (.cells [.str g.2.1, .int .i64 p, .int .i64 m])])
def digs (l : List UInt8) : Bool := l.all fun c => decide (48 <= c.toNat) && decide (c.toNat <= 57)
def decR : List UInt8 -> Bool
 | [] => false
 | c :: r => if c.toNat = 45 /\ r ≠ [] then !decide (r = [48]) && decR r && !decide (r.head? = some 45) else digs (c :: r) && (decide (r = []) || !decide (c.toNat = 48))
def head48 : List UInt8 -> Bool
 | [] => false
 | c :: _ => decide (c.toNat = 48)
def canR (l : List UInt8) : Bool :=
 let d := if l.head? = some 45 then l.tail else l
 digs d && !decide (d = []) && (!head48 d || decide (l = [48]))
end Go.Proofs.YtoclmkbjgmgekaaGreatDoor
