/-
  The machine over typed values, 13: states told by their leaves; what code comes to. No program in sight.
-/
import Derived.Test.YthjikjhddddplaaMX
namespace Go.Proofs.Ythjikjhddddplaa
set_option linter.unusedVariables false
set_option linter.unusedSimpArgs false
open Go.RowKit

/-! ### Leaves -/
inductive Lf where
  | int (k : IntKind)
  | bool
  | str
  | sl (e : El)
  | cst
  deriving DecidableEq
@[reducible] def Lf.ty : Lf → Type
  | .int _ => Int
  | .bool => Bool
  | .str => ByteArray
  | .sl e => List (Go.Proofs.Ythjikjhddddplaa.ty e)
  | .cst => Value
def Lf.val : (l : Lf) → l.ty → T
  | .int k, n => .int k n
  | .bool, b => .bool b
  | .str, s => .str s
  | .sl e, l => .sl false e l
  | .cst, v => .cst v
def gCst : T → Option Value
  | .cst v => some v
  | _ => none
def Lf.get : (l : Lf) → T → Option l.ty
  | .int k, v => gInt k v
  | .bool, v => gBool v
  | .str, v => gStr v
  | .sl e, v => gSl e v
  | .cst, v => gCst v
theorem Lf.get_ok : ∀ {l : Lf} {v : T} {x : l.ty}, l.get v = some x → Wk v (l.val x)
  | .int _, _, _, h => gInt_ok h
  | .bool, _, _, h => gBool_ok h
  | .str, _, _, h => gStr_ok h
  | .sl _, _, _, h => gSl_ok h
  | .cst, v, x, h => by
    cases v <;> simp [Lf.get, gCst] at h
    subst h; exact .refl _
@[reducible] def prodL : List Lf → Type
  | [] => Unit
  | l :: r => l.ty × prodL r
def envT : (ls : List Lf) → prodL ls → List T
  | [], _ => []
  | l :: r, g => l.val g.1 :: envT r g.2
def typed : (ls : List Lf) → List T → (prodL ls → Prop) → Prop
  | [], [], W => W ()
  | l :: r, v :: vs, W => match l.get v with
    | some x => typed r vs fun g => W (x, g)
    | none => False
  | _, _, _ => False
inductive All2 (p : T → T → Prop) : List T → List T → Prop where
  | nil : All2 p [] []
  | cons {v u : T} {vs us : List T} : p v u → All2 p vs us → All2 p (v :: vs) (u :: us)
theorem typed_ok : ∀ {ls : List Lf} {vs : List T} {W : prodL ls → Prop}, typed ls vs W → ∃ g, W g ∧ All2 Wk vs (envT ls g)
  | [], [], _, h => ⟨(), h, .nil⟩
  | [], _ :: _, _, h => h.elim
  | _ :: _, [], _, h => h.elim
  | l :: r, v :: vs, W, h => by
    simp only [typed] at h
    split at h
    · rename_i x hx
      obtain ⟨g, g1, g2⟩ := typed_ok h
      exact ⟨(x, g), g1, .cons (Lf.get_ok hx) g2⟩
    · exact h.elim
theorem All2.append_inv {p : T → T → Prop} : ∀ {a b us : List T}, All2 p (a ++ b) us → ∃ u1 u2, us = u1 ++ u2 ∧ All2 p a u1 ∧ All2 p b u2
  | [], b, us, h => ⟨[], us, rfl, .nil, h⟩
  | v :: a, b, _, h => by
    cases h with
    | cons h1 h2 =>
      obtain ⟨u1, u2, rfl, k1, k2⟩ := h2.append_inv
      exact ⟨_ :: u1, u2, rfl, .cons h1 k1, k2⟩

/-! ### Shapes -/
inductive Sh where
  | any
  | leaf
  | nil
  | pt (p off : Nat)
  | oa (e : El) (p : Nat)
  | ag (l : List Sh)
  | tu (l : List Sh)
  | fn (f : FuncId) (xs ys : List Sh)
  | ic (t : TypeId) (s : Sh)
mutual
def collect : Sh → T → Option (List T)
  | .any, _ => some []
  | .leaf, v => some [v]
  | .nil, .nil => some []
  | .pt p o, .pt p' o' => match decide (p = p' ∧ o = o') with
    | true => some []
    | false => none
  | .oa e p, .oa e' p' v => match decide (e = e' ∧ p = p' ∧ v = 0) with
    | true => some []
    | false => none
  | .ag l, .ag vs => collectL l vs
  | .tu l, .tu vs => collectL l vs
  | .fn f xs ys, .fn f' us vs => match decide (f = f') with
    | true => match collectL xs us, collectL ys vs with
      | some a, some b => some (a ++ b)
      | _, _ => none
    | false => none
  | .ic t s, .ic t' v => match decide (t = t') with
    | true => collect s v
    | false => none
  | _, _ => none
def collectL : List Sh → List T → Option (List T)
  | [], [] => some []
  | s :: r, v :: vs => match collect s v, collectL r vs with
    | some a, some b => some (a ++ b)
    | _, _ => none
  | _, _ => none
end
mutual
def bld : Sh → List T → T × List T
  | .any, ls => (.undef, ls)
  | .leaf, [] => (.undef, [])
  | .leaf, v :: r => (v, r)
  | .nil, ls => (.nil, ls)
  | .pt p o, ls => (.pt p o, ls)
  | .oa e p, ls => (.oa e p 0, ls)
  | .ag l, ls => (.ag (bldL l ls).1, (bldL l ls).2)
  | .tu l, ls => (.tu (bldL l ls).1, (bldL l ls).2)
  | .fn f xs ys, ls => (.fn f (bldL xs ls).1 (bldL ys (bldL xs ls).2).1, (bldL ys (bldL xs ls).2).2)
  | .ic t s, ls => (.ic t (bld s ls).1, (bld s ls).2)
def bldL : List Sh → List T → List T × List T
  | [], ls => ([], ls)
  | s :: r, ls => ((bld s ls).1 :: (bldL r (bld s ls).2).1, (bldL r (bld s ls).2).2)
end
def Weak (v u : T) : Prop := ∀ (g : G) (x : Value), R g v x → R g u x
def WeakL (vs us : List T) : Prop := us.length = vs.length ∧ ∀ (i : Nat) (u : T), us[i]? = some u → ∃ v, vs[i]? = some v ∧ Weak v u
mutual
theorem bld_ok : ∀ {sh : Sh} {v : T} {vs us : List T} (rest : List T), collect sh v = some vs → All2 Wk vs us → (bld sh (us ++ rest)).2 = rest ∧ Weak v (bld sh (us ++ rest)).1
  | .any, v, vs, us, rest, h, k => by
    simp only [collect, Option.some.injEq] at h
    subst h
    cases k
    exact ⟨rfl, fun g x _ => .undef x⟩
  | .leaf, v, vs, us, rest, h, k => by
    simp only [collect, Option.some.injEq] at h
    subst h
    cases k with
    | cons h1 h2 =>
      cases h2
      exact ⟨rfl, fun g x hx => hx.wk h1⟩
  | .nil, v, vs, us, rest, h, k => by
    cases v <;> simp only [collect, Option.some.injEq, reduceCtorEq] at h
    subst h
    cases k
    exact ⟨rfl, fun g x hx => hx⟩
  | .pt p o, v, vs, us, rest, h, k => by
    cases v <;> simp only [collect, reduceCtorEq] at h
    split at h
    case h_2 => cases h
    rename_i hd
    obtain ⟨rfl, rfl⟩ := of_decide_eq_true hd
    simp only [Option.some.injEq] at h
    subst h
    cases k
    exact ⟨rfl, fun g x hx => hx⟩
  | .oa e p, v, vs, us, rest, h, k => by
    cases v <;> simp only [collect, reduceCtorEq] at h
    split at h
    case h_2 => cases h
    rename_i hd
    obtain ⟨rfl, rfl, rfl⟩ := of_decide_eq_true hd
    simp only [Option.some.injEq] at h
    subst h
    cases k
    exact ⟨rfl, fun g x hx => hx⟩
  | .ag l, v, vs, us, rest, h, k => by
    cases v <;> simp only [collect, reduceCtorEq] at h
    obtain ⟨h1, h2, h3⟩ := bldL_ok rest h k
    refine ⟨h1, fun g x hx => ?_⟩
    cases hx with
    | ag cs xs k1 k2 k3 =>
      refine .ag _ xs (by rw [← k1]; exact h2) (fun i c y hc hy => ?_) k3
      obtain ⟨c0, c1, c2⟩ := h3 i c hc
      exact c2 g y (k2 i c0 y c1 hy)
  | .tu l, v, vs, us, rest, h, k => by
    cases v <;> simp only [collect, reduceCtorEq] at h
    obtain ⟨h1, h2, h3⟩ := bldL_ok rest h k
    refine ⟨h1, fun g x hx => ?_⟩
    cases hx with
    | tu cs xs k1 k2 =>
      refine .tu _ xs (by rw [← k1]; exact h2) (fun i c y hc hy => ?_)
      obtain ⟨c0, c1, c2⟩ := h3 i c hc
      exact c2 g y (k2 i c0 y c1 hy)
  | .fn f xs ys, v, vs, us, rest, h, k => by
    cases v <;> simp only [collect, reduceCtorEq] at h
    split at h
    case h_2 => cases h
    rename_i hd
    obtain rfl := of_decide_eq_true hd
    split at h
    case h_2 => cases h
    rename_i a b ha hb
    simp only [Option.some.injEq] at h
    subst h
    obtain ⟨u1, u2, rfl, k1, k2⟩ := k.append_inv
    obtain ⟨h1, h2, h3⟩ := bldL_ok (u2 ++ rest) ha k1
    obtain ⟨h4, h5, h6⟩ := bldL_ok rest hb k2
    simp only [bld, List.append_assoc, h1, h4, true_and]
    intro g x hx
    cases hx with
    | fn _ as bs xs ys q1 q2 q3 q4 =>
      refine .fn f _ _ xs ys (by rw [← q1]; exact h2) (by rw [← q2]; exact h5) (fun i c y hc hy => ?_) (fun i c y hc hy => ?_)
      · obtain ⟨c0, c1, c2⟩ := h3 i c hc
        exact c2 g y (q3 i c0 y c1 hy)
      · obtain ⟨c0, c1, c2⟩ := h6 i c hc
        exact c2 g y (q4 i c0 y c1 hy)
  | .ic t s, v, vs, us, rest, h, k => by
    cases v <;> simp only [collect, reduceCtorEq] at h
    split at h
    case h_2 => cases h
    rename_i hd
    obtain rfl := of_decide_eq_true hd
    obtain ⟨h1, h2⟩ := bld_ok rest h k
    refine ⟨h1, fun g x hx => ?_⟩
    cases hx with
    | ic _ _ y hy => exact .ic _ _ y (h2 g y hy)
theorem bldL_ok : ∀ {l : List Sh} {cs vs us : List T} (rest : List T), collectL l cs = some vs → All2 Wk vs us → (bldL l (us ++ rest)).2 = rest ∧ WeakL cs (bldL l (us ++ rest)).1
  | [], cs, vs, us, rest, h, k => by
    cases cs <;> simp only [collectL, Option.some.injEq, reduceCtorEq] at h
    subst h
    cases k
    exact ⟨rfl, rfl, fun i u hu => by simp [bldL] at hu⟩
  | s :: r, cs, vs, us, rest, h, k => by
    cases cs with
    | nil => simp [collectL] at h
    | cons c cs =>
      simp only [collectL] at h
      split at h
      case h_2 => cases h
      rename_i a b ha hb
      simp only [Option.some.injEq] at h
      subst h
      obtain ⟨u1, u2, rfl, k1, k2⟩ := k.append_inv
      obtain ⟨h1, h2⟩ := bld_ok (u2 ++ rest) ha k1
      obtain ⟨h3, h4, h5⟩ := bldL_ok rest hb k2
      simp only [bldL, List.append_assoc, h1, h3, true_and]
      refine ⟨by simp [h4], fun i u hu => ?_⟩
      cases i with
      | zero => simp only [List.getElem?_cons_zero, Option.some.injEq] at hu; subst hu; exact ⟨c, rfl, h2⟩
      | succ i => simp only [List.getElem?_cons_succ] at hu ⊢; exact h5 i u hu
end
inductive ObSh where
  | none
  | cells (l : List Sh)
  | arr (e : El)
def collectO : ObSh → Option Ob → Option (List T)
  | .none, .none => some []
  | .cells l, some (.cells cs) => collectL l cs
  | .arr e, some (.arr v e' l) => if h : e' = e then match decide (v = 0) with
    | true => some [.sl false e (asKind h l)]
    | false => Option.none else Option.none
  | _, _ => Option.none
def arrSl (e : El) : T → Option Ob
  | .sl _ e' l => if h : e' = e then some (.arr 0 e (asKind h l)) else none
  | _ => none
def bldO : ObSh → List T → Option Ob × List T
  | .none, ls => (Option.none, ls)
  | .cells l, ls => (some (.cells (bldL l ls).1), (bldL l ls).2)
  | .arr _, [] => (Option.none, [])
  | .arr e, v :: r => (arrSl e v, r)
def ObWeak : Option Ob → Option Ob → Prop
  | some (.cells cs), some (.cells cs') => WeakL cs cs'
  | o, o' => o = o'
theorem bldO_ok {sh : ObSh} {o : Option Ob} {vs us : List T} (rest : List T) (h : collectO sh o = some vs) (k : All2 Wk vs us) : (bldO sh (us ++ rest)).2 = rest ∧ ObWeak o (bldO sh (us ++ rest)).1 := by
  unfold collectO at h
  split at h
  · simp only [Option.some.injEq] at h
    subst h
    cases k
    exact ⟨rfl, rfl⟩
  · obtain ⟨h1, h2⟩ := bldL_ok rest h k
    exact ⟨h1, h2⟩
  · rename_i e v e' l
    split at h
    case isFalse => cases h
    rename_i he
    subst he
    split at h
    case h_2 => cases h
    rename_i hv
    have hv := of_decide_eq_true hv
    subst hv
    simp only [Option.some.injEq] at h
    subst h
    cases k with
    | cons h1 h2 =>
      cases h2
      cases h1 with
      | refl => exact ⟨rfl, by simp [bldO, arrSl, ObWeak, asKind]⟩
      | sl full e l => exact ⟨rfl, by simp [bldO, arrSl, ObWeak, asKind]⟩
  · cases h
def collectT : List (Nat × Sh) → Tm → Option (List T)
  | [], [] => some []
  | (i, sh) :: r, (j, v) :: q => match decide (i = j) with
    | true => match collect sh v, collectT r q with
      | some a, some b => some (a ++ b)
      | _, _ => none
    | false => none
  | _, _ => none
def collectS : List ObSh → St → Option (List T)
  | [], [] => some []
  | sh :: r, o :: q => match collectO sh o, collectS r q with
    | some a, some b => some (a ++ b)
    | _, _ => none
  | _, _ => none
def bldT : List (Nat × Sh) → List T → Tm × List T
  | [], ls => ([], ls)
  | (i, sh) :: r, ls => ((i, (bld sh ls).1) :: (bldT r (bld sh ls).2).1, (bldT r (bld sh ls).2).2)
def bldS : List ObSh → List T → St × List T
  | [], ls => ([], ls)
  | sh :: r, ls => ((bldO sh ls).1 :: (bldS r (bldO sh ls).2).1, (bldS r (bldO sh ls).2).2)
theorem bldT_ok : ∀ {l : List (Nat × Sh)} {t : Tm} {vs us : List T} (rest : List T), collectT l t = some vs → All2 Wk vs us → (bldT l (us ++ rest)).2 = rest ∧ ∀ i, Weak (get t i) (get (bldT l (us ++ rest)).1 i)
  | [], t, vs, us, rest, h, k => by
    cases t <;> simp only [collectT, Option.some.injEq, reduceCtorEq] at h
    subst h
    cases k
    exact ⟨rfl, fun i g x hx => hx⟩
  | (i, sh) :: r, t, vs, us, rest, h, k => by
    cases t with
    | nil => simp [collectT] at h
    | cons p q =>
      obtain ⟨j, v⟩ := p
      simp only [collectT] at h
      split at h
      case h_2 => cases h
      rename_i hd
      obtain rfl := of_decide_eq_true hd
      split at h
      case h_2 => cases h
      rename_i a b ha hb
      simp only [Option.some.injEq] at h
      subst h
      obtain ⟨u1, u2, rfl, k1, k2⟩ := k.append_inv
      obtain ⟨h1, h2⟩ := bld_ok (u2 ++ rest) ha k1
      obtain ⟨h3, h4⟩ := bldT_ok rest hb k2
      simp only [bldT, List.append_assoc, h1, h3, true_and]
      intro m
      simp only [get]
      split
      · exact h2
      · exact h4 m
theorem bldS_ok : ∀ {l : List ObSh} {s : St} {vs us : List T} (rest : List T), collectS l s = some vs → All2 Wk vs us → (bldS l (us ++ rest)).2 = rest ∧ (bldS l (us ++ rest)).1.length = s.length ∧ ∀ (i : Nat) (o o' : Option Ob), s[i]? = some o → (bldS l (us ++ rest)).1[i]? = some o' → ObWeak o o'
  | [], s, vs, us, rest, h, k => by
    cases s <;> simp only [collectS, Option.some.injEq, reduceCtorEq] at h
    subst h
    cases k
    exact ⟨rfl, rfl, fun i o o' h => by simp at h⟩
  | sh :: r, s, vs, us, rest, h, k => by
    cases s with
    | nil => simp [collectS] at h
    | cons o q =>
      simp only [collectS] at h
      split at h
      case h_2 => cases h
      rename_i a b ha hb
      simp only [Option.some.injEq] at h
      subst h
      obtain ⟨u1, u2, rfl, k1, k2⟩ := k.append_inv
      obtain ⟨h1, h2⟩ := bldO_ok (u2 ++ rest) ha k1
      obtain ⟨h3, h4, h5⟩ := bldS_ok rest hb k2
      simp only [bldS, List.append_assoc, h1, h3, true_and, List.length_cons, h4]
      intro i p p' hp hp'
      cases i with
      | zero => simp only [List.getElem?_cons_zero, Option.some.injEq] at hp hp'; subst hp; subst hp'; exact h2
      | succ i => simp only [List.getElem?_cons_succ] at hp hp'; exact h5 i p p' hp hp'
theorem good_weak {g : G} {s s' : St} {w : World} (hg : Good g s w) (hl : s'.length = s.length) (hw : ∀ (i : Nat) (o o' : Option Ob), s[i]? = some o → s'[i]? = some o' → ObWeak o o') : Good g s' w ∧ ∀ b0, Step b0 g s w g s' w := by
  have key : ∀ k o', s'[k]? = some (some o') → ∃ o, s[k]? = some (some o) ∧ obVer o' = obVer o ∧ isArr o' = isArr o ∧ (∀ oi, obFits o oi → obFits o' oi) ∧ (∀ oi m, obWide o oi m → obWide o' oi m) ∧ WeakL (obCells o) (obCells o') := fun k o' h => by
    have hk : k < s.length := by rw [← hl]; exact (List.getElem?_eq_some_iff.1 h).1
    have h1 := hw k s[k] (some o') (by simp [hk]) h
    cases hs : s[k] with
    | none => rw [hs] at h1; cases o' <;> cases h1
    | some o =>
      rw [hs] at h1
      refine ⟨o, List.getElem?_eq_some_iff.2 ⟨hk, hs⟩, ?_⟩
      cases o with
      | cells cs =>
        cases o' with
        | cells cs' => exact ⟨rfl, rfl, fun _ _ => trivial, fun _ _ _ => trivial, h1⟩
        | arr => cases h1
      | arr ver e l =>
        have h1 : some (Ob.arr ver e l) = some o' := h1
        simp only [Option.some.injEq] at h1
        subst h1
        exact ⟨rfl, rfl, fun _ h => h, fun _ _ h => h, rfl, fun i u hu => ⟨u, hu, fun _ _ h => h⟩⟩
  have hblk : ∀ k o o', obVer o' = obVer o → isArr o' = isArr o → obBlk g k o' = obBlk g k o := fun k o o' h1 h2 => by unfold obBlk; rw [h1, h2]
  refine ⟨⟨hg.ro, fun k o' h => ?_, fun k k' o1 o2 b h1 h2 h3 h4 => ?_, fun k v oi h => ?_⟩, fun b0 => ⟨rfl, rfl, rfl, Nat.le_refl _, fun _ _ _ => rfl, fun _ _ h => h, fun b hb => ?_, fun _ _ h => .inl h, fun k _ o ho => ?_, fun k _ ver e l ho => ?_⟩⟩
  · obtain ⟨o, h1, h2, h3, h4, h5, h6, h7⟩ := key k o' h
    obtain ⟨oi, k1, k2, k3⟩ := hg.obj k o h1
    refine ⟨oi, by rw [h2]; exact k1, h4 oi k2, ?_⟩
    unfold obRow
    rw [h3]
    rcases k3 with k3 | ⟨k3, blk, E, fr, k4, k5, k6, k7⟩
    · exact .inl k3
    · exact .inr ⟨k3, blk, E, fr, k4, k5, ⟨by rw [h6]; exact k6.le, fun j u hj => by
        obtain ⟨c, c1, c2⟩ := h7 j u hj
        obtain ⟨x, x1, x2, x3⟩ := k6.at_ j c c1
        exact ⟨x, x1, x2, c2 g x x3⟩⟩, h5 oi _ k7⟩
  · obtain ⟨p, p1, p2, p3, _⟩ := key k o1 h1
    obtain ⟨q, q1, q2, q3, _⟩ := key k' o2 h2
    rw [hblk k p o1 p2 p3] at h3
    rw [hblk k' q o2 q2 q3] at h4
    exact hg.inj k k' p q b p1 q1 h3 h4
  · obtain ⟨h1, h2⟩ := hg.old k v oi h
    refine ⟨by omega, fun o' ho => ?_⟩
    obtain ⟨o, k1, k2, _⟩ := key k o' ho
    rw [k2]; exact h2 o k1
  · obtain ⟨k, o', h1, h2⟩ := hb
    obtain ⟨o, k1, k2, k3, _⟩ := key k o' h1
    rw [hblk k o o' k2 k3] at h2
    exact .inl ⟨k, o, k1, h2⟩
  · have hk : k < s'.length := by rw [hl]; exact (List.getElem?_eq_some_iff.1 ho).1
    have h1 := hw k (some o) s'[k] ho (by simp [hk])
    cases o with
    | cells cs =>
      cases hs : s'[k] with
      | none => rw [hs] at h1; cases h1
      | some o' =>
        rw [hs] at h1
        cases o' with
        | cells cs' => exact ⟨cs', List.getElem?_eq_some_iff.2 ⟨hk, hs⟩, h1.1, rfl⟩
        | arr => cases h1
    | arr ver e l =>
      have h1 : some (Ob.arr ver e l) = s'[k] := h1
      exact ⟨ver, l, List.getElem?_eq_some_iff.2 ⟨hk, h1.symm⟩⟩
  · have hk : k < s'.length := by rw [hl]; exact (List.getElem?_eq_some_iff.1 ho).1
    have h1 : some (Ob.arr ver e l) = s'[k] := hw k (some (.arr ver e l)) s'[k] ho (by simp [hk])
    exact ⟨ver, l, List.getElem?_eq_some_iff.2 ⟨hk, h1.symm⟩, fun e0 => ⟨e0, rfl⟩⟩
theorem cut_weak {b0 : B0} {t t' : Tm} {s s' : St} (ht : ∀ i, Weak (get t i) (get t' i)) (hl : s'.length = s.length) (hw : ∀ (i : Nat) (o o' : Option Ob), s[i]? = some o → s'[i]? = some o' → ObWeak o o') : CutOk b0 t s t' s' := fun g w a n hg h => by
  obtain ⟨k1, k2⟩ := good_weak hg hl hw
  exact ⟨g, k1, ⟨h.size, h.defers, fun i => ht i g _ (h.val i)⟩, k2 b0⟩

/-! ### Hints -/
/-- Which objects a state keeps (each by a road to it; and of what kind an array is, if it is empty and nowhere yet), which temporaries, and how they look. -/
structure Hint where
  slots : List ((Nat × List Nat) × Option El)
  live : List (Nat × Sh)
  objs : List ObSh
  ls : List Lf
def walk (s : St) : T → List Nat → T
  | v, [] => v
  | .pt k off, j :: r => match rd s k with
    | some (.cells cs) => match cs[off + j]? with
      | some u => walk s u r
      | none => .undef
    | _ => .undef
  | .fn _ xs ys, j :: r => match (xs ++ ys)[j]? with
    | some u => walk s u r
    | none => .undef
  | _, _ :: _ => .undef
def virt1 (t : Tm) (s : St) (d : Nat) (js : List Nat) (e : El) : Tm × St :=
  match walk s (get t d) js with
  | .nil => match js.getLast? with
    | none => (put t d (.oa e s.length 0), addArr s e)
    | some j => match walk s (get t d) js.dropLast with
      | .pt k off => match rd s k with
        | some (.cells cs) => match cs[off + j]? with
          | some .nil => (t, (addArr s e).set k (some (.cells (cs.set (off + j) (.oa e s.length 0)))))
          | _ => (t, s)
        | _ => (t, s)
      | _ => (t, s)
  | _ => (t, s)
theorem walk_nil {s : St} {v : T} : walk s v [] = v := by cases v <;> rfl
theorem cut_virt1 {b0 : B0} {t : Tm} {s : St} {d : Nat} {js : List Nat} {e : El} : CutOk b0 t s (virt1 t s d js e).1 (virt1 t s d js e).2 := by
  unfold virt1
  split
  · rename_i hw
    split
    · rename_i hj
      have : js = [] := by simpa using hj
      subst this
      rw [walk_nil] at hw
      exact cut_virtT e hw
    · split
      · split
        · rename_i hr
          split
          · rename_i hc
            exact cut_virtC e hr hc
          · exact CutOk.refl
        · exact CutOk.refl
      · exact CutOk.refl
  · exact CutOk.refl
def virts : List ((Nat × List Nat) × Option El) → Tm → St → Tm × St
  | [], t, s => (t, s)
  | ((d, js), some e) :: r, t, s => virts r (virt1 t s d js e).1 (virt1 t s d js e).2
  | (_, none) :: r, t, s => virts r t s
theorem cut_virts {b0 : B0} : ∀ (l : List ((Nat × List Nat) × Option El)) (t : Tm) (s : St), CutOk b0 t s (virts l t s).1 (virts l t s).2
  | [], _, _ => CutOk.refl
  | ((d, js), some e) :: r, t, s => cut_virt1.trans (cut_virts r _ _)
  | (_, none) :: r, t, s => cut_virts r t s
def objOf : T → Option Nat
  | .pt k _ => some k
  | .oa _ k _ => some k
  | .os _ k _ _ _ => some k
  | .pe _ k _ _ _ => some k
  | _ => none
def keeps (t : Tm) (s : St) : List ((Nat × List Nat) × Option El) → Option (List Nat)
  | [] => some []
  | ((d, js), _) :: r => match objOf (walk s (get t d) js), keeps t s r with
    | some k, some l => some (k :: l)
    | _, _ => none
def upto : Nat → List Nat → List Nat
  | 0, l => l
  | n + 1, l => upto n (n :: l)
def nodupB : List Nat → Bool
  | [] => true
  | a :: r => match posOf r a with
    | some _ => false
    | none => nodupB r
theorem nodupB_ok : ∀ {l : List Nat}, nodupB l = true → l.Nodup
  | [], _ => List.nodup_nil
  | a :: r, h => by
    simp only [nodupB] at h
    split at h
    · cases h
    · rename_i hp
      exact List.nodup_cons.2 ⟨posOf_none hp, nodupB_ok h⟩
theorem upto_get : ∀ (n : Nat) (l : List Nat) (k : Nat), k < n → (upto n l)[k]? = some k
  | 0, _, _, h => absurd h (Nat.not_lt_zero _)
  | n + 1, l, k, h => by
    simp only [upto]
    by_cases e : k < n
    · exact upto_get n _ k e
    · have : k = n := by omega
      subst this
      have key : ∀ (n : Nat) (l : List Nat) (i : Nat), (upto n l)[n + i]? = l[i]? := by
        intro n
        induction n with
        | zero => intro l i; simp [upto]
        | succ n ih =>
          intro l i
          simp only [upto]
          rw [show n + 1 + i = n + (i + 1) by omega, ih]
          rfl
      have := key k (k :: l) 0
      simpa using this
def Hint.T (h : Hint) (g : prodL h.ls) : Tm := (bldT h.live (envT h.ls g)).1
def Hint.S (h : Hint) (g : prodL h.ls) : St := (bldS h.objs (bldT h.live (envT h.ls g)).2).1
def liveIx : List (Nat × Sh) → List Nat
  | [] => []
  | (i, _) :: r => i :: liveIx r
/-- Was nothing appended to the first arrays? -/
def fix0 : Nat → St → Bool
  | 0, _ => true
  | _, [] => true
  | n + 1, o :: r => match o with
    | some (.arr ver _ _) => match decide (ver = 0) with
      | true => fix0 n r
      | false => false
    | _ => fix0 n r
theorem fix0_ok : ∀ {n : Nat} {s : St}, fix0 n s = true → ∀ k, k < n → ∀ ver e l, s[k]? = some (some (.arr ver e l)) → ver = 0
  | 0, _, _, k, hk, _, _, _, _ => absurd hk (Nat.not_lt_zero _)
  | n + 1, [], _, k, _, _, _, _, hs => by simp at hs
  | n + 1, o :: r, h, k, hk, ver, e, l, hs => by
    simp only [fix0] at h
    cases k with
    | zero =>
      simp only [List.getElem?_cons_zero, Option.some.injEq] at hs
      subst hs
      simp only at h
      split at h
      · rename_i hd; exact of_decide_eq_true hd
      · cases h
    | succ k =>
      simp only [List.getElem?_cons_succ] at hs
      refine fix0_ok (n := n) (s := r) ?_ k (by omega) ver e l hs
      split at h
      · split at h
        · exact h
        · cases h
      · exact h
def Hint.dec1 (h : Hint) (b0 : B0) (t : Tm) (s : St) (W : prodL h.ls → Prop) : Prop :=
  match keeps t s h.slots with
  | some ks => match nodupB (upto b0.b ks), Nat.ble b0.c b0.b, fix0 b0.c s with
    | true, true, true => match collectT h.live (rnT s (pos0 (upto b0.b ks)) t (liveIx h.live)), collectS h.objs (rnS s true (upto b0.b ks)) with
      | some a, some b => typed h.ls (a ++ b) W
      | _, _ => False
    | _, _, _ => False
  | none => False
def Hint.dec (h : Hint) (b0 : B0) (t : Tm) (s : St) (W : prodL h.ls → Prop) : Prop := h.dec1 b0 (virts h.slots t s).1 (virts h.slots t s).2 W
theorem Hint.dec_ok {h : Hint} {b0 : B0} {t : Tm} {s : St} {W : prodL h.ls → Prop} (hd : h.dec b0 t s W) : ∃ g, W g ∧ CutOk b0 t s (h.T g) (h.S g) := by
  have c1 := cut_virts (b0 := b0) h.slots t s
  unfold Hint.dec at hd
  generalize (virts h.slots t s).1 = t1 at hd c1
  generalize (virts h.slots t s).2 = s1 at hd c1
  unfold Hint.dec1 at hd
  split at hd
  case h_2 => exact hd.elim
  rename_i ks hks
  split at hd
  case h_2 => exact hd.elim
  rename_i hn hle hfx
  have hle := Nat.le_of_ble_eq_true hle
  have c2 := cut_ren (b0 := b0) (t := t1) (s := s1) (nodupB_ok hn) (fun k hk => upto_get b0.b ks k hk) (fun k hk => ⟨upto_get b0.b ks k (by omega), fix0_ok hfx k hk⟩) (liveIx h.live)
  split at hd
  case h_2 => exact hd.elim
  rename_i a b ha hb
  obtain ⟨g, g1, g2⟩ := typed_ok hd
  obtain ⟨u1, u2, he, k1, k2⟩ := g2.append_inv
  refine ⟨g, g1, c1.trans (c2.trans ?_)⟩
  obtain ⟨h1, h2⟩ := bldT_ok u2 ha k1
  obtain ⟨_, h3, h4⟩ := bldS_ok [] hb k2
  rw [List.append_nil] at h3 h4
  unfold Hint.T Hint.S
  rw [he, h1]
  exact cut_weak h2 h3 h4

/-! ### Code -/
def loopN {γ : Type} (body : (γ → Prop) → γ → Prop) : Nat → γ → Prop
  | 0, _ => False
  | m + 1, g => body (loopN body m) g
/-- A loop: some number of rounds is enough. -/
def LoopW {γ : Type} (body : (γ → Prop) → γ → Prop) (g : γ) : Prop := ∃ m, loopN body m g
def keyO : Code → Option Nat
  | .region id _ _ => some id
  | .seq a b => match keyO a with
    | some k => some k
    | none => keyO b
  | .cond _ a b => match keyO a with
    | some k => some k
    | none => keyO b
  | .block _ c => keyO c
  | .loop c => keyO c
  | .scope c => keyO c
  | _ => none
def hintAt (H : List (Nat × Hint)) : Option Nat → Option Hint
  | none => none
  | some k => match H with
    | [] => none
    | (j, h) :: r => match decide (k = j) with
      | true => some h
      | false => hintAt r (some k)
def joinK (b0 : B0) (J : Option Hint) (W : Tm → St → Prop) (t : Tm) (s : St) : Prop :=
  match J with
  | some h => h.dec b0 t s fun g => W (h.T g) (h.S g)
  | none => W t s
/-- The callees that have one outcome. mu: those that may have more. -/
def gamR (mu : FuncId → Bool) (Γ : Gam) : Gam := fun f vs s K X => match mu f with
  | true => False
  | false => Γ f vs s K X
theorem gamR_ok {P : Program} {mu : FuncId → Bool} {Γ : Gam} (h : GamOk P Γ) : GamOk P (gamR mu Γ) := fun f vs s K X hk => by
  unfold gamR at hk
  split at hk
  · exact hk.elim
  · exact h f vs s K X hk
/-- What code comes to. H: the loops' hints, J: those where roads meet; mu: which callees no region that draws may call. -/
def den (D : TD) (Γ : Gam) (mu : FuncId → Bool) (H J : List (Nat × Hint)) (n : Nat) (b0 : B0) : Code → Kc → Tm → St → Prop
  | .skip, K, t, s => K .normal t s
  | .label _, K, t, s => K .normal t s
  | .region _ ops draw, K, t, s => match draw with
    | false => dops D Γ n ops ops.toList t s (K .normal) fun v => K (.pan v)
    | true => dregD D (gamR mu Γ) (fun _ => false) n ops t s (K .normal)
  | .seq a b, K, t, s => den D Γ mu H J n b0 a (thenK (joinK b0 (hintAt J (keyO b)) (den D Γ mu H J n b0 b K)) K) t s
  | .cond c a b, K, t, s => dcond t c (fun t => den D Γ mu H J n b0 a K t s) fun t => den D Γ mu H J n b0 b K t s
  | .block id c, K, t, s => den D Γ mu H J n b0 c (blockK id K) t s
  | .loop c, K, t, s => match hintAt H (keyO c) with
    | some h => h.dec b0 t s (LoopW fun W g => den D Γ mu H J n b0 c (thenK (fun t s => h.dec b0 t s W) K) (h.T g) (h.S g))
    | none => False
  | .ret, K, t, s => K .ret t s
  | .exit id, K, t, s => K (.exit id) t s
  | _, _, _, _ => False
section
variable {P : Program} {D : TD} {Γ : Gam} {mu : FuncId → Bool} {n : Nat} {b0 : B0} {t : Tm} {st : St} {Q : Kc}
theorem awp_loop {c : Code} (I : Nat → Tm → St → Prop) (m : Nat) (h0 : I m t st) (h : ∀ m t st, I m t st → awp P n b0 c (thenK (fun t' st' => ∃ m', m' < m ∧ I m' t' st') Q) t st) : awp P n b0 (.loop c) Q t st := by
  intro g w a hg ht
  refine wp_loop_ghost (fun m a' w' => ∃ (g' : G) (t' : Tm) (st' : St), I m t' st' ∧ Good g' st' w' ∧ RelT g' n t' a' ∧ Step b0 g st w g' st' w') m ⟨g, t, st, h0, hg, ht, Step.refl⟩ ?_
  rintro m a1 w1 ⟨g1, t1, st1, h1, h2, h3, h4⟩
  refine wp_mono (h m t1 st1 h1 g1 w1 a1 h2 h3) fun e a' w' hl => ?_
  have hl := hl.trans h4
  obtain ⟨e0, g', t', st', k1, k2, k3, k4, k5⟩ := hl
  cases e0 <;> cases e <;> first
    | (exact k2.elim)
    | (obtain ⟨m', hm, hi⟩ := k1; exact ⟨m', hm, g', t', st', hi, k3, k4, k5⟩)
    | (exact ⟨_, g', t', st', k1, k2, k3, k4, k5⟩)
theorem thenK_mono {A A' : Tm → St → Prop} (h : ∀ t s, A t s → A' t s) : ∀ e t s, thenK A Q e t s → thenK A' Q e t s := fun e t s hk => by
  cases e <;> first | exact h t s hk | exact hk
theorem den_sound (hD : TDok P D) (hΓ : GamOk P Γ) (hdet : GamDet (fun _ => false) (gamR mu Γ)) (hmx : P.follows .mixedOrders = true) {H J : List (Nat × Hint)} : ∀ (c : Code) (Q : Kc) (t : Tm) (st : St), den D Γ mu H J n b0 c Q t st → awp P n b0 c Q t st
  | .skip, Q, t, st, h => awp_skip h
  | .label _, Q, t, st, h => awp_label h
  | .region id ops draw, Q, t, st, h => by
    cases draw with
    | false => exact awp_region hD hΓ h
    | true => exact awp_draw hD (gamR_ok hΓ) hdet hmx h
  | .seq a b, Q, t, st, h => by
    refine awp_seq (awp_mono (den_sound hD hΓ hdet hmx a _ t st h) (thenK_mono fun t s hk => ?_))
    unfold joinK at hk
    split at hk
    · obtain ⟨g, g1, g2⟩ := Hint.dec_ok hk
      exact g2.awp (den_sound hD hΓ hdet hmx b Q _ _ g1)
    · exact den_sound hD hΓ hdet hmx b Q t s hk
  | .cond c a b, Q, t, st, h => by
    refine awp_cond ?_
    simp only [den] at h
    unfold dcond at h ⊢
    split at h
    · rename_i v hv
      split at h
      · cases hb : v <;> rw [hb] at h
        · exact den_sound hD hΓ hdet hmx b Q _ _ h
        · exact den_sound hD hΓ hdet hmx a Q _ _ h
      · cases hb : v <;> rw [hb] at h
        · exact den_sound hD hΓ hdet hmx b Q _ _ h
        · exact den_sound hD hΓ hdet hmx a Q _ _ h
    · exact ⟨den_sound hD hΓ hdet hmx a Q _ _ h.1, den_sound hD hΓ hdet hmx b Q _ _ h.2⟩
    · exact h.elim
  | .block id c, Q, t, st, h => awp_block (den_sound hD hΓ hdet hmx c _ t st h)
  | .loop c, Q, t, st, h => by
    simp only [den] at h
    split at h
    case h_2 => exact h.elim
    rename_i hh _
    obtain ⟨g, ⟨m, hm⟩, hc⟩ := Hint.dec_ok h
    refine awp_loop (fun m t s => ∃ g, loopN (fun W g => den D Γ mu H J n b0 c (thenK (fun t s => hh.dec b0 t s W) Q) (hh.T g) (hh.S g)) m g ∧ CutOk b0 t s (hh.T g) (hh.S g)) m ⟨g, hm, hc⟩ ?_
    rintro m t s ⟨g, hm, hc⟩
    cases m with
    | zero => exact hm.elim
    | succ m =>
      refine hc.awp (awp_mono (den_sound hD hΓ hdet hmx c _ _ _ hm) (thenK_mono fun t' s' hk => ?_))
      obtain ⟨g', g1, g2⟩ := Hint.dec_ok hk
      exact ⟨m, Nat.lt_succ_self m, g', g1, g2⟩
  | .ret, Q, t, st, h => awp_ret h
  | .exit id, Q, t, st, h => awp_exit h
  | .rangeFunc .., _, _, _, h => h.elim
  | .scope _, _, _, _, h => h.elim
  | .goto _, _, _, _, h => h.elim
  | .refuse _, _, _, _, h => h.elim
end
end Go.Proofs.Ythjikjhddddplaa
