import Derived.Test.YtpbkhdeehlikfaaDoorCI
import Derived.Test.YtpbkhdeehlikfaaDoorCJ
import Derived.RecoverIn
import Derived.WalkKit
namespace Go.Proofs.YtpbkhdeehlikfaaDoor
set_option linter.unusedVariables false
set_option linter.unusedSimpArgs false
set_option linter.unusedSectionVars false
open Go.RowKit
theorem assert_nil (w : World) : (Instr.typeAssert .nilIface 20 47 true).run Tryd.prog w = .ok (.tuple #[.agg #[.int .i64 0], .bool false]) w := by kernel_rfl
theorem assert_fail (v : Value) (w : World) : (Instr.typeAssert (.iface 47 v) 20 47 true).run Tryd.prog w = .ok (.tuple #[v, .bool true]) w := by kernel_rfl
theorem catch_idle (p q r : Addr) (w : World) :
    CallsDIn (WF none) 0 Tryd.prog 26 #[.pointer (some p), .pointer (some q), .pointer (some r)] .returning w fun e u' w' => e = .returned (.tuple #[]) ∧ u' = .returning ∧ ∃ x, w' = w.alloc (.cells #[x] 47) := by
  refine callsDIn_of_wpSIn Tryd.func26 (c := codeOf Tryd.f26) rfl trivial fun c₀ cs hu => ?_
  apply wpSIn_seq
  apply wpSIn_region
  simp [wpOpsSIn, go_sem, recoverD, hu, Tryd.ntmps26, Exit.thenS]
  apply wpSIn_seq
  apply wpSIn_region
  simp [wpOpsSIn, go_sem, Exit.thenS, assert_nil]
  apply wpSIn_seq
  apply wpSIn_region
  simp [wpOpsSIn, go_sem, Exit.thenS]
  refine wpSIn_cond (t := false) (by simp [Act.eval]) ?_
  simp only [Bool.false_eq_true, if_false]
  apply wpSIn_seq
  apply wpSIn_region
  simp [wpOpsSIn, go_sem, Exit.thenS]
  refine wpSIn_cond (t := false) (by simp [Act.eval]) ?_
  simp only [Bool.false_eq_true, if_false]
  refine wpSIn_of_wpIn rfl (wpIn_skip ?_)
  cases c₀
  simp_all [bodyPostS, results, Tryd.results26]
  exact ⟨_, rfl⟩
theorem R_list {P : Program} {g : G P} {tmps : Array Value} : ∀ (t : Tm), (∀ p ∈ t, R g p.2 (tmps.getD p.1 Go.undef)) → ∀ i, R g (get t i) (tmps.getD i Go.undef)
  | [], _, i => .undef _
  | (j, v) :: r, h, i => by
    simp only [get]
    by_cases e : i = j
    · subst e; rw [if_pos rfl]; exact h (i, v) (List.mem_cons_self ..)
    · rw [if_neg e]; exact R_list r (fun p hp => h p (List.mem_cons_of_mem _ hp)) i
theorem good_alloc {P : Program} {g : G P} {st : St} {w : World} (hg : Good g st w) {z : List T} {xs : Array Value} (E : TypeId) (hx : R g (.ag z) (.agg xs)) : ∃ g', Good g' (st ++ [some (.cells z)]) (w.alloc (.cells xs E)) ∧ g.le g' ∧ (∀ b0, Step b0 g st w g' (st ++ [some (.cells z)]) (w.alloc (.cells xs E))) ∧ R g' (.pt st.length 0) (.pointer (some ⟨w.heap.size, 0, none⟩)) := by
  cases hx with
  | ag _ _ h1 h2 h3 =>
    obtain ⟨k1, k2, k3⟩ := good_put (st' := st ++ [some (.cells z)]) (k := st.length) (v := 0) (o' := .cells z) (oi := ⟨w.heap.size, 0, 0⟩) (w' := w.alloc (.cells xs E)) hg push_at (Nat.le_refl _) (by simp) rfl (.inl (no_new hg)) (fun u oi hu => by rw [no_new hg] at hu; cases hu) trivial
      (fun _ => .inl (Nat.le_refl _)) rfl rfl rfl (by simp) (fun b hb _ => Below.heap_alloc w _ b hb) (fun _ => ⟨xs, E, (0, 0), heap_alloc_new w _, fun q _ h => absurd h.2 (Nat.not_lt_zero _), ⟨by simp only [obCells]; omega, fun j u hu => by
        simp only [obCells] at hu
        have hj : j < xs.size := by rw [← h1]; exact (List.getElem?_eq_some_iff.1 hu).1
        exact ⟨xs[j], by simp [hj], h3 j _ (by simp [hj]), h2 j u _ hu (by simp [hj])⟩⟩, trivial⟩) (fun o ho => by rw [List.getElem?_eq_none (Nat.le_refl _)] at ho; cases ho)
    exact ⟨_, k1, k3, k2, .pt _ 0 ⟨w.heap.size, 0, 0⟩ (by simp [G.set])⟩
@[reducible] def bdS (P : Program) (l : List Deferred) (h : ∀ d ∈ l, ∀ D, d ≠ { target := .collected D, args := #[] }) : Bd P := ⟨l, h, true⟩
/-- The three results, and what the reader and the failure hold. -/
def stF (n e : Int) (X : List T) (s : ByteArray) (p m : Int) (l : List T) : St := [some (.cells X), some (.cells [.int .i64 n]), some (.cells [.int .i64 e]), some (.cells [.str s, .int .i64 p, .int .i64 m])] ++ l.map fun v => some (.cells [v])
def t26 (e : Int) : Tm := [(0, .pt 0 0), (1, .pt 1 0), (2, .pt 2 0), (3, .ic 47 (.ag [.int .i64 e])), (4, .pt 4 0)]
def x0 : List T := [.bool false, .str ⟨#[]⟩, .nil]
def thenOf (c : Code) : Code := match c with | .seq _ (.seq _ (.seq _ (.cond _ r _))) => r | c => c
theorem den26 (n e0 e p m : Int) (s : ByteArray) (S : St) : (den D (gamX [] []) (isRaw []) [] [] 19 ⟨4, 0⟩ 0 (thenOf (codeOf Tryd.f26)) (fun x _ s' => x = .normal ∧ s' = S) (t26 e) (stF n e0 x0 s p m [.int .i64 e])) = (Ex.normal = Ex.normal ∧ stF 0 e x0 s p m [.int .i64 e] = S) := by kernel_rfl
theorem catch_fail {g : G Tryd.prog} {n e0 e p m : Int} {s : ByteArray} {w : World} (hg : Good g (stF n e0 x0 s p m []) w) {v0 v1 v2 : Value} (h0 : R g (.pt 0 0) v0) (h1 : R g (.pt 1 0) v1) (h2 : R g (.pt 2 0) v2) :
    CallsDIn (WF none) 0 Tryd.prog 26 #[v0, v1, v2] (.panicking [{ v := .iface 47 (.agg #[.int .i64 e]), recovered := false }]) w fun e' u' w' => e' = .returned (.tuple #[]) ∧ u' = .panicking [{ v := .iface 47 (.agg #[.int .i64 e]), recovered := true }] ∧
      ∃ g', Good g' (stF 0 e x0 s p m [.int .i64 e]) w' ∧ Step ⟨4, 0⟩ g (stF n e0 x0 s p m []) w g' (stF 0 e x0 s p m [.int .i64 e]) w' := by
  refine callsDIn_of_wpSIn Tryd.func26 (c := codeOf Tryd.f26) rfl trivial fun c₀ cs hu => ?_
  apply wpSIn_seq
  apply wpSIn_region
  simp [wpOpsSIn, go_sem, recoverD, hu, Tryd.ntmps26, Exit.thenS]
  apply wpSIn_seq
  apply wpSIn_region
  simp [wpOpsSIn, go_sem, Exit.thenS, assert_fail]
  apply wpSIn_seq
  apply wpSIn_region
  simp [wpOpsSIn, go_sem, Exit.thenS]
  refine wpSIn_cond (t := true) (by simp [Act.eval]) ?_
  simp only [if_true]
  refine wpSIn_of_wpIn rfl ?_
  obtain ⟨g1, k1, k2, k3, k4⟩ := good_alloc (z := [.int .i64 e]) (xs := #[.int .i64 e]) hg 47 (.ag _ _ rfl (fun i c x hc hx => by
    match i, hc, hx with
    | 0, hc, hx => simp at hc hx; subst hc; subst hx; exact .int _ _
    | i + 1, hc, hx => simp at hc) (fun i x hx => by
    match i, hx with
    | 0, hx => simp at hx; subst hx; rfl
    | i + 1, hx => simp at hx))
  letI B : Bd Tryd.prog := bdS Tryd.prog [] (by simp)
  refine wpIn_mono (@den_sound Tryd.prog B D (gamX [] []) (isRaw []) 19 ⟨4, 0⟩ D_ok (gamX_ok (rs := []) (l := []) (fun p hp => by cases hp) (fun p hp => by cases hp)) gamX_det rfl [] [] 0 (thenOf (codeOf Tryd.f26)) (yOk_of (by kernel_rfl)) _ _ _ (Eq.mpr (den26 n e0 e p m s _) ⟨rfl, rfl⟩) none (.inr (by kernel_rfl)) g1 _ _ k1 ?ht) ?_
  case ht =>
    refine ⟨by simp, ⟨[], rfl, fun _ => rfl, by simp⟩, by simp, R_list _ ?_⟩
    simp only [t26, List.forall_mem_cons, List.not_mem_nil, false_imp_iff, implies_true, and_true]
    refine ⟨by simpa using h0.mono k2, by simpa using h1.mono k2, by simpa using h2.mono k2, ?_, by simpa [stF] using k4⟩
    simp
    refine .ic 47 _ _ (.ag _ _ rfl (fun i c x hc hx => by
      match i, hc, hx with
      | 0, hc, hx => simp at hc hx; subst hc; subst hx; exact .int _ _
      | i + 1, hc, hx => simp at hc) (fun i x hx => by
      match i, hx with
      | 0, hx => simp at hx; subst hx; rfl
      | i + 1, hx => simp at hx))
  rintro x a' w' ⟨x0, g', t', st', ⟨rfl, rfl⟩, q1, q2, q3, q4⟩
  cases x <;> first | (exact q1.elim) | skip
  obtain ⟨ms, m1, m2, _⟩ := q3.defers
  have m1 : a'.defers = ms ++ [] := m1
  rw [m2 rfl] at m1
  exact ⟨m1, _, rfl, .tuple #[], by simp [results, Tryd.results26], rfl, rfl, g', q2, (k3 ⟨4, 0⟩).trans q4⟩

theorem put_defers {a : Act} {d : Option Tmp} {x : Value} : (a.put d x).defers = a.defers := by cases d <;> rfl
theorem dops_pre {P : Program} {D : TD} {Γ : Gam} {n : Nat} (hD : TDok P D) (hΓ : GamOk P Γ) {ops : Array Oper} {Q' : Exit → Act → World → Prop} {A : Tm → St → Prop} {rest : List Oper} : ∀ (l : List Oper) (g : G P) (st : St) (w : World) (t : Tm) (a : Act), Good g st w → RelT g n t a → dops D Γ n ops l t st A (fun _ _ _ => False) →
    (∀ g' st' w' t' a', A t' st' → Good g' st' w' → RelT g' n t' a' → g.le g' → (∀ b0, Step b0 g st w g' st' w') → a'.defers = a.defers → wpListIn (WF none) 0 P ops Q' rest a' w') → wpListIn (WF none) 0 P ops Q' (l ++ rest) a w
  | [], g, st, w, t, a, hg, ht, h, hq => hq g st w t a h hg ht (G.le_refl g) (fun _ => Step.refl) rfl
  | o :: r, g, st, w, t, a, hg, ht, h, hq => by
    unfold dops at h
    rw [List.cons_append]
    unfold wpListIn
    rcases dguard_sound ht h with ⟨t1, ht1, h, hw⟩ | ⟨t1, ht1, h, hw⟩
    · rw [if_pos hw]
      refine dop_sound hD hΓ hg ht1 h none _ _ (fun v s' x g' w' hk g1 l1 s1 r1 => ?_) (fun u s' v g' w' hx g1 l1 s1 r1 => hx.elim)
      obtain ⟨t2, k1, k2⟩ := (ht1.mono l1.le).fin r1 hk
      exact dops_pre hD hΓ r g' s' w' t2 _ g1 k2 k1 fun g2 st2 w2 t2 a2 q1 q2 q3 q4 q5 q6 => hq g2 st2 w2 t2 a2 q1 q2 q3 (l1.le.trans q4) (fun b0 => (s1 b0).trans (q5 b0)) (q6.trans put_defers)
    · rw [if_neg (by rw [hw]; simp)]
      obtain ⟨t2, k1, k2⟩ := ht1.fin (o := o) (R.cst Go.undef) h
      exact ⟨fun _ _ => trivial, dops_pre hD hΓ r g st w t2 _ hg k2 k1 fun g2 st2 w2 t2 a2 q1 q2 q3 q4 q5 q6 => hq g2 st2 w2 t2 a2 q1 q2 q3 q4 q5 (q6.trans put_defers)⟩

def ops1 (c : Code) : List Oper := match c with | .seq (.region _ o _) _ => o.toList | _ => []
def ops2 (c : Code) : List Oper := match c with | .seq _ (.seq (.region _ o _) _) => o.toList | _ => []
def rest2 (c : Code) : Code := match c with | .seq _ (.seq _ r) => r | c => c
theorem code12 : codeOf Tryd.f12 = .seq (.region 0 (ops1 (codeOf Tryd.f12)).toArray false) (.seq (.region 1 (ops2 (codeOf Tryd.f12)).toArray false) (rest2 (codeOf Tryd.f12))) := by kernel_rfl
abbrev rs12 : List ResultVar := [.cell 2 25, .cell 3 3, .cell 4 26]
def q12 (A : Kn) (B : Kn) : Kc := fun x t s => match x with
  | .ret => dres D t s rs12 fun l => A (resV l) s
  | .pan v => get t 2 = .pt 0 0 ∧ get t 3 = .pt 1 0 ∧ get t 4 = .pt 2 0 ∧ B v s
  | _ => False
def st12 : St := [some (.cells x0), some (.cells [.int .i64 0]), some (.cells [.int .i64 0])]
def t12 (s : ByteArray) : Tm := [(0, .str s), (2, .pt 0 0), (3, .pt 1 0), (4, .pt 2 0)]
def ok12 (K : Kn) (s : ByteArray) (a : Sx × Nat × List UInt8) : Prop := K (.tu [.ag [.bool a.1.isList, .str a.1.atom, .sl false .sexp a.1.list], .int .i64 ((s.size : Int) - (a.2.2.length : Int)), .int .i64 0]) []
def er12 (K : Kn) (e : Int) : Prop := K (.tu [.ag x0, .int .i64 0, .int .i64 e]) []
theorem den12 (s : ByteArray) (K B : Kn) : (den D (gamX [(27, rw27)] []) (isRaw [(27, rw27)]) [] [] 17 ⟨3, 0⟩ 0 (rest2 (codeOf Tryd.f12)) (q12 (settle0 K) B) (t12 s) st12) =
    (sexpPre (1, s, 0, 0, ()) ∧ Res.go (rdS ((13 : Int) - 1).toNat (0 : Int).toNat ((bl s).drop (0 : Int).toNat)) (ok12 K s)
      (fun e => ∀ (p m : Int), (T.pt 0 0 = .pt 0 0 ∧ T.pt 1 0 = .pt 1 0 ∧ T.pt 2 0 = .pt 2 0 ∧ B (.ic 47 (.ag [.int .i64 e])) (stF 0 0 x0 s p m [])))) := by kernel_rfl
theorem res12 (s : ByteArray) (K : Kn) (e p m : Int) : (dres D [(2, .pt 0 0), (3, .pt 1 0), (4, .pt 2 0)] (stF 0 e x0 s p m [.int .i64 e]) rs12 fun l => settle0 K (resV l) (stF 0 e x0 s p m [.int .i64 e])) = er12 K e := by kernel_rfl
theorem pre12 (s : ByteArray) (A : Tm → St → Prop) : dops D (gamX [] []) 17 (ops1 (codeOf Tryd.f12)).toArray (ops1 (codeOf Tryd.f12)) [(0, .str s)] [] A (fun _ _ _ => False) = A [(0, .str s), (2, .pt 0 0), (3, .pt 1 0), (4, .pt 2 0)] st12 := by kernel_rfl
theorem pre12' (s : ByteArray) (A : Tm → St → Prop) : dops D (gamX [] []) 17 (ops2 (codeOf Tryd.f12)).toArray ((ops2 (codeOf Tryd.f12)).take 1) (t12 s) st12 A (fun _ _ _ => False) = A (put (t12 s) 6 (.fn 26 [] [.pt 0 0, .pt 1 0, .pt 2 0])) st12 := by kernel_rfl
theorem pt_kept {P : Program} {b0 : B0} {g g' : G P} {st st' : St} {w w' : World} (h : Step b0 g st w g' st' w') {k : Nat} {cs : List T} (hk : k < b0.b) (ho : st[k]? = some (some (.cells cs))) {y : Value} (hr : R g (.pt k 0) y) : R g' (.pt k 0) y := by
  obtain ⟨_, _, _, h3⟩ := h.kept k hk _ ho
  cases hr with
  | pt _ _ oi h1 => exact .pt _ _ oi (by rw [h3]; exact h1)
theorem step_less {P : Program} {b0 : B0} {g g' : G P} {st st' : St} {w w' : World} (h : Step b0 g st w g' st' w') : Step ⟨0, 0⟩ g st w g' st' w' :=
  { h with kept := fun _ h => absurd h (Nat.not_lt_zero _), fixd := fun _ h => absurd h (Nat.not_lt_zero _) }
def op21 (c : Code) : Oper := (ops2 c).getD 1 default
theorem df12_is : (ops2 (codeOf Tryd.f12)).drop 1 = [(op21 (codeOf Tryd.f12))] := by kernel_rfl
theorem df12_op : (op21 (codeOf Tryd.f12)).op = .defer { callee := .value (.tmp 6), args := #[], argTypes := #[] } := by kernel_rfl
theorem df12_guard : (op21 (codeOf Tryd.f12)).guard = none := by kernel_rfl
theorem df12_dst : (op21 (codeOf Tryd.f12)).dst = none := by kernel_rfl
def erB (K : Kn) (s : ByteArray) : Kn := fun v s' => ∃ e p m, v = .ic 47 (.ag [.int .i64 e]) ∧ s' = stF 0 0 x0 s p m [] ∧ er12 K e
theorem F12_ok (s : ByteArray) (K X : Kn) (hs : sexpPre (1, s, 0, 0, ())) (h : Res.go (rdS 12 0 (bl s)) (ok12 K s) (er12 K)) : FCalls Tryd.prog 12 [.str s] [] K X := by
  refine FCalls.settle0 fun g w hg => Atc.of (by unfold enters; rw [Tryd.func12]; kernel_rfl) fun args hrl => ?_
  refine callsIn_wide.1 (callsIn_of_wp_marks (F := WF none) (n := 0) Tryd.func12 (c := codeOf Tryd.f12) rfl trivial ?_)
  rw [code12, Tryd.ntmps12]
  have hΓ : GamOk Tryd.prog (gamX [] []) := gamX_ok (rs := []) (l := []) (fun p hp => by cases hp) (fun p hp => by cases hp)
  refine wpIn_seq (wpIn_region_lit (Eq.mp (congrArg (fun L => wpListIn (WF none) 0 Tryd.prog (ops1 (codeOf Tryd.f12)).toArray _ L _ w) (List.append_nil (ops1 (codeOf Tryd.f12)))) (dops_pre (rest := []) D_ok hΓ (ops1 (codeOf Tryd.f12)) g [] w (initT 0 [.str s]) _ hg (RelT_init (n := 17) hrl (by simp)) (Eq.mpr (pre12 s fun t' s' => t' = t12 s ∧ s' = st12) ⟨rfl, rfl⟩) ?_)))
  rintro g1 _ w1 _ a1 ⟨rfl, rfl⟩ p1 p2 p3 p4 p5
  refine wpIn_seq (wpIn_region_lit (Eq.mp (congrArg (fun L => wpListIn (WF none) 0 Tryd.prog (ops2 (codeOf Tryd.f12)).toArray _ L _ w1) (List.take_append_drop 1 (ops2 (codeOf Tryd.f12)))) (dops_pre (rest := (ops2 (codeOf Tryd.f12)).drop 1) D_ok hΓ ((ops2 (codeOf Tryd.f12)).take 1) g1 st12 w1 (t12 s) a1 p1 p2 (Eq.mpr (pre12' s fun t' s' => t' = put (t12 s) 6 (.fn 26 [] [.pt 0 0, .pt 1 0, .pt 2 0]) ∧ s' = st12) ⟨rfl, rfl⟩) ?_)))
  rintro g2 _ w2 _ a2 ⟨rfl, rfl⟩ r1 r2 r3 r4 r5
  rw [df12_is]
  unfold wpListIn
  rw [if_pos (by simp [Region.wanted, df12_guard])]
  refine ⟨fun _ _ => trivial, ?_⟩
  have hv : R g2 (.fn 26 [] [.pt 0 0, .pt 1 0, .pt 2 0]) (a2.tmps.getD 6 Go.undef) := r2.val 6
  obtain ⟨y0, y1, y2, e6, z0, z1, z2⟩ : ∃ y0 y1 y2, a2.tmps.getD 6 Go.undef = .func (.func 26) #[] #[y0, y1, y2] ∧ R g2 (.pt 0 0) y0 ∧ R g2 (.pt 1 0) y1 ∧ R g2 (.pt 2 0) y2 := by
    generalize a2.tmps.getD 6 Go.undef = z at hv
    cases hv with
    | fn _ _ _ xs ys k0 k1 k2 k3 k4 =>
      obtain rfl : xs = #[] := Array.eq_empty_of_size_eq_zero (by simpa using k1.symm)
      obtain ⟨l⟩ := ys
      match l, k2, k4 with
      | [y0, y1, y2], _, k4 => exact ⟨y0, y1, y2, rfl, k4 0 _ _ rfl rfl, k4 1 _ _ rfl rfl, k4 2 _ _ rfl rfl⟩
    | yl _ _ yi _ _ k0 => cases k0
  have hrun : ((op21 (codeOf Tryd.f12)).semAt (WF none).round a2.eval).run Tryd.prog w2 = .ok (.defer { target := .fn (.func 26) #[y0, y1, y2], args := #[] }) w2 := by
    show (execOp a2.eval (op21 (codeOf Tryd.f12))).run Tryd.prog w2 = _
    simp [execOp, df12_op, resolve, Act.eval, e6, Deferred.ofValue, go_sem]
  rw [hrun, Oper.uponIn_defer]
  obtain ⟨o0, rfl, u0⟩ : ∃ oi : OI, y0 = .pointer (some ⟨oi.b, 0, none⟩) ∧ g2.ob 0 0 = some oi := by cases z0 with | pt _ _ oi k => exact ⟨oi, rfl, k⟩
  obtain ⟨o1, rfl, u1⟩ : ∃ oi : OI, y1 = .pointer (some ⟨oi.b, 0, none⟩) ∧ g2.ob 1 0 = some oi := by cases z1 with | pt _ _ oi k => exact ⟨oi, rfl, k⟩
  obtain ⟨o2, rfl, u2⟩ : ∃ oi : OI, y2 = .pointer (some ⟨oi.b, 0, none⟩) ∧ g2.ob 2 0 = some oi := by cases z2 with | pt _ _ oi k => exact ⟨oi, rfl, k⟩
  have rsz := r2.size
  have rv := r2.val
  letI B : Bd Tryd.prog := bdS Tryd.prog [{ target := .fn (.func 26) #[.pointer (some ⟨o0.b, 0, none⟩), .pointer (some ⟨o1.b, 0, none⟩), .pointer (some ⟨o2.b, 0, none⟩)], args := #[] }] (by
    intro d hd D e
    simp only [List.mem_cons, List.not_mem_nil, or_false] at hd
    rw [hd] at e
    cases e)
  have hd0 : a2.defers = [] := by rw [r5, p5]
  have h' : sexpPre (1, s, 0, 0, ()) ∧ Res.go (rdS ((13 : Int) - 1).toNat (0 : Int).toNat ((bl s).drop (0 : Int).toNat)) (ok12 K s)
      (fun e => ∀ (p m : Int), (T.pt 0 0 = .pt 0 0 ∧ T.pt 1 0 = .pt 1 0 ∧ T.pt 2 0 = .pt 2 0 ∧ (erB K s) (.ic 47 (.ag [.int .i64 e])) (stF 0 0 x0 s p m []))) := by
    refine ⟨hs, ?_⟩
    show Res.go (rdS 12 0 (bl s)) _ _
    cases hr : rdS 12 0 (bl s) with
    | ok a => rw [hr] at h; exact h
    | err e => rw [hr] at h; exact fun p m => ⟨rfl, rfl, rfl, e, p, m, rfl, rfl, h⟩
  have hrs : GamOk Tryd.prog (gamX [(27, rw27)] []) := gamX_ok (rs := [(27, rw27)]) (l := []) (by intro p hp; simp only [List.mem_cons, List.not_mem_nil, or_false] at hp; subst hp; exact rw27_ok) (fun p hp => by cases hp)
  refine wpIn_mono (@den_sound Tryd.prog B D (gamX [(27, rw27)] []) (isRaw [(27, rw27)]) 17 ⟨3, 0⟩ D_ok hrs gamX_det rfl [] [] 0 (rest2 (codeOf Tryd.f12)) (yOk_of (by kernel_rfl)) _ _ _ (Eq.mpr (den12 s K (erB K s)) h') none (.inr (by kernel_rfl)) g2 w2 _ r1 ?ht) ?_
  case ht =>
    refine ⟨?_, ⟨[], ?_, fun _ => rfl, by simp⟩, ?_, R_list _ ?_⟩
    · rw [df12_dst]; exact rsz
    · rw [df12_dst]; show _ :: a2.defers = _; rw [hd0]; rfl
    · rw [df12_dst]; simp [Act.put, hd0]
    · rw [df12_dst]
      simp only [t12, List.forall_mem_cons, List.not_mem_nil, false_imp_iff, implies_true, and_true]
      exact ⟨rv 0, rv 2, rv 3, rv 4⟩
  rintro x a' w' ⟨x0', g', t', st', hq, q1, q2, q3, q4⟩
  obtain ⟨ms, m1, m2, _⟩ := q3.defers
  have m1 : a'.defers = ms ++ B.bd := m1
  rw [m2 rfl, List.nil_append] at m1
  have hst : Step ⟨0, 0⟩ g [] w g' st' w' := ((p4 _).trans (r4 _)).trans (step_less q4)
  have b0 := pt_kept q4 (k := 0) (by decide) rfl z0
  have b1 := pt_kept q4 (k := 1) (by decide) rfl z1
  have b2 := pt_kept q4 (k := 2) (by decide) rfl z2
  have hinv : ∀ w : World, (invoke (.fn (.func 26) #[.pointer (some ⟨o0.b, 0, none⟩), .pointer (some ⟨o1.b, 0, none⟩), .pointer (some ⟨o2.b, 0, none⟩)]) #[]).run Tryd.prog w = .ok (.enter 26 #[.pointer (some ⟨o0.b, 0, none⟩), .pointer (some ⟨o1.b, 0, none⟩), .pointer (some ⟨o2.b, 0, none⟩)]) w := fun w => by
    simp [invoke, go_sem]
  cases x0' with
  | ret =>
    cases x <;> first | (exact q1.elim) | skip
    show LeavesInM (WF none) 0 Tryd.prog Tryd.f12 a'.tmps _ a'.defers .returning w'
    rw [m1]
    refine ⟨by simp, .inr ⟨fun h => (by cases h), .func 26, _, 26, _, rfl, hinv w', fun _ _ => trivial, (catch_idle _ _ _ w').mono ?_⟩⟩
    rintro e u' w3 ⟨rfl, rfl, y, rfl⟩
    obtain ⟨v1, v2⟩ := good_ext (w' := w'.alloc (.cells #[y] 47)) q2 rfl rfl rfl (by show w'.heap.size ≤ (w'.heap.push _).size; simp) (fun b hb => Below.heap_alloc w' _ b hb)
    have ht : @RelT Tryd.prog bdNone g' 17 t' { tmps := a'.tmps, defers := [] } := @RelT.mk Tryd.prog bdNone _ _ _ _ q3.size ⟨[], rfl, fun _ => rfl, by simp⟩ (by simp) q3.val
    obtain ⟨x, v, c1, c2, c3⟩ := results_sound (fn := Tryd.f12) (K := fun v => settle0 K v st') D_ok v1 ht hq
    exact ⟨x, c2, g', st', v1, hst.trans (v2 _), v, c1, c3⟩
  | pan v =>
    cases x <;> first | (exact q1.elim) | skip
    obtain ⟨t0, t1, t2, e, p, m, rfl, rfl, hk⟩ := hq
    obtain ⟨v, rfl, hv⟩ := q1
    obtain rfl : v = .iface 47 (.agg #[.int .i64 e]) := by
      cases hv with
      | ic _ _ x hx =>
        cases hx with
        | ag _ xs k1 k2 k3 =>
          obtain ⟨l⟩ := xs
          match l, k1, k2 with
          | [z], _, k2 =>
            have := k2 0 _ _ rfl rfl
            cases this
            rfl
    show LeavesInM (WF none) 0 Tryd.prog Tryd.f12 a'.tmps _ a'.defers (.panicking _) w'
    rw [m1]
    refine ⟨by simp, .inr ⟨fun h => (by cases h), .func 26, _, 26, _, rfl, hinv w', fun _ _ => trivial, (catch_fail q2 b0 b1 b2).mono ?_⟩⟩
    rintro e' u' w3 ⟨rfl, rfl, g3, v1, v2⟩
    have c0 := pt_kept v2 (k := 0) (by decide) rfl (t0 ▸ q3.val 2)
    have c1 := pt_kept v2 (k := 1) (by decide) rfl (t1 ▸ q3.val 3)
    have c2 := pt_kept v2 (k := 2) (by decide) rfl (t2 ▸ q3.val 4)
    have ht : @RelT Tryd.prog bdNone g3 17 [(2, .pt 0 0), (3, .pt 1 0), (4, .pt 2 0)] { tmps := a'.tmps, defers := [] } := @RelT.mk Tryd.prog bdNone _ _ _ _ q3.size ⟨[], rfl, fun _ => rfl, by simp⟩ (by simp) (R_list _ (by
      simp only [List.forall_mem_cons, List.not_mem_nil, false_imp_iff, implies_true, and_true]
      exact ⟨c0, c1, c2⟩))
    obtain ⟨x, v, c1, c2, c3⟩ := results_sound (fn := Tryd.f12) (K := fun v => settle0 K v (stF 0 e x0 s p m [.int .i64 e])) D_ok v1 ht (Eq.mpr (res12 s K e p m) hk)
    exact ⟨x, c2, g3, _, v1, hst.trans (step_less v2), v, c1, c3⟩
  | _ => exact hq.elim
end Go.Proofs.YtpbkhdeehlikfaaDoor