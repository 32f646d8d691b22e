import Derived.Test.YtoclmkbjgmgekaaDoorX2
import Derived.Shelf.Strconv.Itoa3
import Derived.Shelf.Strconv.AtoiAll
import Derived.Ground.NamesProg
import Derived.RecoverIn
import Derived.WalkKit
import Derived.Test.YtoclmkbjgmgekaaDoorX1
import Derived.Lib.AtoiAllCases
/-
  Csexp: what Go's library yields: Itoa, Atoi.
-/
namespace Go.Proofs.YtoclmkbjgmgekaaDoor
set_option linter.unusedVariables false
set_option linter.unusedSimpArgs false
set_option linter.unusedSectionVars false
open Go.RowKit Go.Shelf
/- Laid by the kit's tool lay-plain.mjs. -/
def laysItoa_ren : Go.Shelf.Ren := ⟨fun | 171 => 36 | 243 => 71 | 246 => 92 | 283 => 103 | 284 => 104 | 285 => 105 | 286 => 106 | 129 => 112 | 317 => 111 | 318 => 113 | 319 => 114 | 320 => 115 | 337 => 123 | 338 => 124 | n => n, fun | 3 => 3 | 9 => 9 | 2 => 2 | 4 => 4 | 171 => 136 | 0 => 0 | 53 => 137 | 37 => 101 | 5 => 5 | 173 => 140 | 212 => 146 | 51 => 147 | 20 => 20 | 213 => 148 | 46 => 149 | 232 => 42 | 233 => 167 | n => n, fun | 17 => 0 | 18 => 3 | 19 => 4 | n => n⟩
theorem laysItoa : Go.Proofs.LaysM.n171 Tryd.prog laysItoa_ren := {
  mixed := by kernel_rfl
  f129 := Tryd.func112.trans (congrArg some (by kernel_rfl))
  f171 := Tryd.func36.trans (congrArg some (by kernel_rfl))
  f243 := Tryd.func71.trans (congrArg some (by kernel_rfl))
  f246 := Tryd.func92.trans (congrArg some (by kernel_rfl))
  f283 := Tryd.func103.trans (congrArg some (by kernel_rfl))
  f284 := Tryd.func104.trans (congrArg some (by kernel_rfl))
  f285 := Tryd.func105.trans (congrArg some (by kernel_rfl))
  f286 := Tryd.func106.trans (congrArg some (by kernel_rfl))
  f317 := Tryd.func111.trans (congrArg some (by kernel_rfl))
  f318 := Tryd.func113.trans (congrArg some (by kernel_rfl))
  f319 := Tryd.func114.trans (congrArg some (by kernel_rfl))
  f320 := Tryd.func115.trans (congrArg some (by kernel_rfl))
  f337 := Tryd.func123.trans (congrArg some (by kernel_rfl))
  f338 := Tryd.func124.trans (congrArg some (by kernel_rfl))
  t0 := Tryd.underlying0
  a0 := Tryd.isAgg0
  z0 := Tryd.sizeOf0
  v0 := Tryd.zeroValue0
  t2 := Tryd.underlying2
  a2 := Tryd.isAgg2
  z2 := Tryd.sizeOf2
  v2 := Tryd.zeroValue2
  t3 := Tryd.underlying3
  a3 := Tryd.isAgg3
  z3 := Tryd.sizeOf3
  v3 := Tryd.zeroValue3
  t4 := Tryd.underlying4
  a4 := Tryd.isAgg4
  z4 := Tryd.sizeOf4
  v4 := Tryd.zeroValue4
  t5 := Tryd.underlying5
  a5 := Tryd.isAgg5
  z5 := Tryd.sizeOf5
  v5 := Tryd.zeroValue5
  t9 := Tryd.underlying9
  a9 := Tryd.isAgg9
  z9 := Tryd.sizeOf9
  v9 := Tryd.zeroValue9
  t20 := Tryd.underlying20
  a20 := Tryd.isAgg20
  z20 := Tryd.sizeOf20
  v20 := Tryd.zeroValue20
  t37 := Tryd.underlying101
  a37 := Tryd.isAgg101
  z37 := Tryd.sizeOf101
  v37 := Tryd.zeroValue101
  t46 := Tryd.underlying149
  a46 := Tryd.isAgg149
  z46 := Tryd.sizeOf149
  v46 := Tryd.zeroValue149
  t51 := Tryd.underlying147
  a51 := Tryd.isAgg147
  z51 := Tryd.sizeOf147
  v51 := Tryd.zeroValue147
  t53 := Tryd.underlying137
  a53 := Tryd.isAgg137
  z53 := Tryd.sizeOf137
  v53 := Tryd.zeroValue137
  t171 := Tryd.underlying136
  a171 := Tryd.isAgg136
  z171 := Tryd.sizeOf136
  v171 := Tryd.zeroValue136
  t173 := Tryd.underlying140
  a173 := Tryd.isAgg140
  z173 := Tryd.sizeOf140
  v173 := Tryd.zeroValue140
  t212 := Tryd.underlying146
  a212 := Tryd.isAgg146
  z212 := Tryd.sizeOf146
  v212 := Tryd.zeroValue146
  t213 := Tryd.underlying148
  a213 := Tryd.isAgg148
  z213 := Tryd.sizeOf148
  t232 := Tryd.underlying42
  a232 := Tryd.isAgg42
  z232 := Tryd.sizeOf42
  v232 := Tryd.zeroValue42
  t233 := Tryd.underlying167
  a233 := Tryd.isAgg167
  z233 := Tryd.sizeOf167
  v233 := Tryd.zeroValue167
  g17 := by kernel_rfl
  g18 := by kernel_rfl
  g19 := by kernel_rfl
  i0 := by kernel_rfl
  i2 := by kernel_rfl
  i3 := by kernel_rfl
  i4 := by kernel_rfl
  i5 := by kernel_rfl
  i9 := by kernel_rfl
  i20 := by kernel_rfl
  i37 := by kernel_rfl
  i46 := by kernel_rfl
  i51 := by kernel_rfl
  i53 := by kernel_rfl
  i171 := by kernel_rfl
  i173 := by kernel_rfl
  i212 := by kernel_rfl
  i232 := by kernel_rfl
  i233 := by kernel_rfl
  m17 := by kernel_rfl
  m18 := by kernel_rfl
  m19 := by kernel_rfl }
def laysAtoi_ren : Go.Shelf.Ren := ⟨fun | 172 => 34000 | 244 => 109 | 245 => 110 | 247 => 118 | 279 => 119 | 280 => 120 | 281 => 121 | 282 => 122 | 287 => 126 | 316 => 127 | 171 => 36 | 205 => 128 | 321 => 129 | 322 => 130 | 243 => 71 | 246 => 92 | 283 => 103 | 284 => 104 | 285 => 105 | 286 => 106 | 129 => 112 | 317 => 111 | 318 => 113 | 319 => 114 | 320 => 115 | 337 => 123 | 338 => 124 | n => n, fun | 9 => 9 | 3 => 3 | 75 => 128 | 76 => 129 | 4 => 4 | 5 => 5 | 167 => 153 | 37 => 101 | 0 => 0 | 85 => 154 | 2 => 2 | 168 => 156 | 53 => 137 | 175 => 161 | 46 => 149 | 210 => 165 | 127 => 132 | 145 => 171 | 143 => 169 | 21 => 21 | 171 => 136 | 173 => 140 | 212 => 146 | 51 => 147 | 20 => 20 | 213 => 148 | 232 => 42 | 233 => 167 | 80 => 105 | n => n, fun | 15 => 1 | 16 => 2 | 17 => 0 | 18 => 3 | 19 => 4 | n => n⟩
/-- New blocks behind the heap turn nothing. -/
theorem good_ext {P : Program} {g : G P} {st : St} {w w' : World} (hg : Good g st w) (h1 : w'.os = w.os) (h2 : w'.tape = w.tape) (h3 : w'.output = w.output) (hsz : w.heap.size ≤ w'.heap.size) (hb : ∀ b, b < w.heap.size → w'.heap[b]? = w.heap[b]?) :
    Good g st w' ∧ ∀ b0, Step b0 g st w g st w' := by
  refine ⟨⟨fun b cs h => ?_, fun k o h => ?_, hg.inj, hg.old, fun b o h => hg.fx_keep (fun b hb' _ => hb b hb') h, fun b h => hg.dm_keep (fun b hb' _ => hb b hb') h, hg.laid⟩, fun b0 => ⟨h1, h2, h3, hsz, fun b hb' _ => hb b hb', fun _ _ h => h, fun _ h => .inl h, fun _ _ h => .inl h, fun _ _ => Kept.refl, fun _ _ => Fixd.refl, fun _ _ h => h, fun _ h => h, fun _ h => .inl h⟩⟩
  · obtain ⟨blk, E, fr, p1, p2⟩ := hg.ro b cs h
    exact ⟨blk, E, fr, by rw [hb b (hg.lt_ro h)]; exact p1, p2⟩
  · obtain ⟨oi, p1, p2, p3⟩ := hg.obj k o h
    refine ⟨oi, p1, p2, ?_⟩
    rcases p3 with p3 | ⟨p3, blk, E, fr, p4, p5, p6, p7⟩
    · exact .inl p3
    · exact .inr ⟨p3, blk, E, fr, by rw [hb _ (view_lt p4)]; exact p4, p5, p6, p7⟩
theorem good_below {P : Program} {g : G P} {st : St} {w w' : World} (hg : Good g st w) (h : Below w.heap.size w w') : Good g st w' ∧ ∀ b0, Step b0 g st w g st w' :=
  good_ext hg h.os h.tape h.output h.size h.block
theorem tab_is {g : G Tryd.prog} {st : St} {w : World} (hg : Good g st w) : Lib.TabIs Tryd.prog w "internal/strconv.uint64pow10" .u64 Lib.pow10Tab := by
  obtain ⟨⟨h1, h2⟩, _⟩ := hg.laid
  obtain ⟨blk, E, fr, p1, p2⟩ := hg.ro _ _ h1
  obtain ⟨blk', E', fr', q1, q2⟩ := hg.ro _ _ h2
  rw [p1] at q1
  simp only [Option.some.injEq, Obj.cells.injEq] at q1
  obtain ⟨rfl, rfl, rfl⟩ := q1
  have hsz : blk.size = 20 := q2.ex 20 rfl
  unfold Lib.TabIs World.var?
  rw [show Tryd.prog.globalNamed "internal/strconv.uint64pow10" = some 0 by kernel_rfl]
  simp only [Option.bind_some, p1, Option.some.injEq]
  apply Array.ext_getElem?
  intro j
  by_cases hj : j < 20
  · obtain ⟨x, x1, _, x3⟩ := p2.at_ j (T.int .u64 ((10 ^ j : Nat) : Int)) (by simp [pow10s, hj]) rfl
    cases x3
    rw [x1]
    simp [Lib.pow10Tab, hj]
  · rw [Array.getElem?_eq_none (by omega), Array.getElem?_eq_none (by simp [Lib.pow10Tab]; omega)]
theorem rl_one {P : Program} {g : G P} {u : T} {args : Array Value} (h : RL g [u] args) : ∃ x, args = #[x] ∧ R g u x := by
  have hl := h.len
  obtain ⟨x, rfl⟩ : ∃ x, args = #[x] := by
    have : args.size = 1 := by simpa using hl.symm
    exact ⟨args[0], Array.ext (by simpa using this) fun i h1 h2 => by
      have : i = 0 := by simp at h2; omega
      subst this; rfl⟩
  exact ⟨x, rfl, h.val 0 u x rfl rfl⟩
def intP (n : Int) : Prop := -9223372036854775808 ≤ n ∧ n ≤ 9223372036854775807
def sp36 : Sp := ⟨[.leaf], [.int .i64], fun g => intP g.1, fun g => .str (decB g.1), fun _ => none⟩
theorem sp36_ok : sp36.Ok Tryd.prog 36 true :=
  ⟨by
    rintro ⟨n, ⟨⟩⟩ K X hp hK g w hg
    obtain ⟨h1, h2⟩ : -9223372036854775808 ≤ n ∧ n ≤ 9223372036854775807 := hp
    refine Atc.of (by kernel_rfl) fun args hr => ?_
    obtain ⟨x, rfl, hx⟩ := rl_one hr
    cases hx
    refine (Any.strconv_Itoa laysItoa n h1 h2 w (tab_is hg)).mono ?_
    rintro e w' ⟨rfl, k, os, rfl⟩
    obtain ⟨q1, q2⟩ := good_ext (w' := Sort.grow (w.drewN k) os) hg rfl rfl rfl (by simp [Sort.grow, World.drewN]) (fun b hb => by simp [Sort.grow, World.drewN, Array.getElem?_append_left hb])
    exact ⟨g, [], q1, q2 _, _, hK, .str _⟩, fun _ _ _ => rfl, fun _ => rfl, fun _ _ => ⟨rfl, rfl⟩⟩
/-- strconv.Atoi. -/
def atoiR (s : ByteArray) : Res Int Int := match Lib.atoiAll (bl s) with
  | .ok v => .ok v
  | .range => .err (Lib.atoiSat (bl s))
  | _ => .err 0
def atoiPre (g : prodL [.str]) : Prop := g.1.size ≤ 2147483648 ∧ ((∃ v, Lib.atoiAll (bl g.1) = .ok v) ∨ Lib.atoiAll (bl g.1) = .range)
def atoiF (g : prodL [.str]) (K _ : Kn) : Prop :=
  Res.go (atoiR g.1) (fun v => K (.tu [.int .i64 v, .cst .nilIface]) []) (fun v => K (.tu [.int .i64 v, .ic 156 .undef]) [])
end Go.Proofs.YtoclmkbjgmgekaaDoor

namespace Go.Proofs.YtoclmkbjgmgekaaDoor
set_option linter.unusedVariables false
set_option linter.unusedSimpArgs false
set_option linter.unusedSectionVars false
open Go.RowKit
theorem assert_nil (w : World) : (Instr.typeAssert .nilIface 20 113 true).run Tryd.prog w = .ok (.tuple #[.agg #[.int .i64 0], .bool false]) w := by kernel_rfl
theorem assert_fail (v : Value) (w : World) : (Instr.typeAssert (.iface 113 v) 20 113 true).run Tryd.prog w = .ok (.tuple #[v, .bool true]) w := by kernel_rfl
theorem catch_idle (p q r : Addr) (w : World) :
    CallsDIn (WF none) 0 Tryd.prog 89 #[.pointer (some p), .pointer (some q), .pointer (some r)] .returning w fun e u' w' => e = .returned (.tuple #[]) ∧ u' = .returning ∧ ∃ x, w' = w.alloc (.cells #[x] 113) := by
  refine callsDIn_of_wpSIn Tryd.func89 (c := codeOf Tryd.f89) rfl trivial fun c₀ cs hu => ?_
  apply wpSIn_seq
  apply wpSIn_region
  simp [wpOpsSIn, go_sem, recoverD, hu, Tryd.ntmps89, Exit.thenS]
  apply wpSIn_seq
  apply wpSIn_region
  simp [wpOpsSIn, go_sem, Exit.thenS, assert_nil]
  apply wpSIn_seq
  apply wpSIn_region
  simp [wpOpsSIn, go_sem, Exit.thenS]
  refine wpSIn_cond (t := false) (by simp [Act.eval]) ?_
  simp only [Bool.false_eq_true, if_false]
  apply wpSIn_seq
  apply wpSIn_region
  simp [wpOpsSIn, go_sem, Exit.thenS]
  refine wpSIn_cond (t := false) (by simp [Act.eval]) ?_
  simp only [Bool.false_eq_true, if_false]
  refine wpSIn_of_wpIn rfl (wpIn_skip ?_)
  cases c₀
  simp_all [bodyPostS, results, Tryd.results89]
  exact ⟨_, rfl⟩
theorem R_list {P : Program} {g : G P} {tmps : Array Value} : ∀ (t : Tm), (∀ p ∈ t, R g p.2 (tmps.getD p.1 Go.undef)) → ∀ i, R g (get t i) (tmps.getD i Go.undef)
  | [], _, i => .undef _
  | (j, v) :: r, h, i => by
    simp only [get]
    by_cases e : i = j
    · subst e; rw [if_pos rfl]; exact h (i, v) (List.mem_cons_self ..)
    · rw [if_neg e]; exact R_list r (fun p hp => h p (List.mem_cons_of_mem _ hp)) i
theorem good_alloc {P : Program} {g : G P} {st : St} {w : World} (hg : Good g st w) {z : List T} {xs : Array Value} (E : TypeId) (hx : R g (.ag z) (.agg xs)) (hW : cellW z E z.length = true := by rfl) (hM : meHead z = false := by rfl) : ∃ g', Good g' (st ++ [some (.cells z)]) (w.alloc (.cells xs E)) ∧ g.le g' ∧ (∀ b0, Step b0 g st w g' (st ++ [some (.cells z)]) (w.alloc (.cells xs E))) ∧ R g' (.pt st.length 0) (.pointer (some ⟨w.heap.size, 0, none⟩)) := by
  cases hx with
  | ag _ _ h1 h2 h3 =>
    obtain ⟨k1, k2, k3⟩ := good_put (st' := st ++ [some (.cells z)]) (k := st.length) (v := 0) (o' := .cells z) (oi := ⟨w.heap.size, 0, 0⟩) (w' := w.alloc (.cells xs E)) hg push_at (Nat.le_refl _) (by simp) rfl (.inl (no_new hg)) (fun u oi hu => by rw [no_new hg] at hu; cases hu) trivial
      (fun _ => .inl (Nat.le_refl _)) rfl rfl rfl (by simp) (fun b hb _ => Below.heap_alloc w _ b hb) (fun _ => ⟨xs, E, (0, 0), by simp only [isMp, hM]; exact heap_alloc_new w _, fun q _ h => absurd h.2 (Nat.not_lt_zero _), ⟨by simp only [obCells]; omega, fun j u hu => by
        simp only [obCells] at hu
        have hj : j < xs.size := by rw [← h1]; exact (List.getElem?_eq_some_iff.1 hu).1
        exact ⟨xs[j], by simp [hj], h3 j _ (by simp [hj]), h2 j u _ hu (by simp [hj])⟩⟩, by simp only [obWide]; rw [← show z.length = xs.size from h1]; exact hW⟩) (fun o ho => by rw [List.getElem?_eq_none (Nat.le_refl _)] at ho; cases ho)
    exact ⟨_, k1, k3, k2, .pt _ 0 ⟨w.heap.size, 0, 0⟩ (by simp [G.set])⟩
@[reducible] def bdS (P : Program) (l : List Deferred) (h : ∀ d ∈ l, ∀ D, d ≠ { target := .collected D, args := #[] }) : Bd P := ⟨l, h, true⟩
/-- The three results, and what the reader and the failure hold. -/
def stF (n e : Int) (X : List T) (s : ByteArray) (p m : Int) (l : List T) : St := [some (.cells X), some (.cells [.int .i64 n]), some (.cells [.int .i64 e]), some (.cells [.str s, .int .i64 p, .int .i64 m])] ++ l.map fun v => some (.cells [v])
def t26 (e : Int) : Tm := [(0, .pt 0 0), (1, .pt 1 0), (2, .pt 2 0), (3, .ic 113 (.ag [.int .i64 e])), (4, .pt 4 0)]
def x0 : List T := [.bool false, .str ⟨#[]⟩, .nil]
def thenOf (c : Code) : Code := match c with | .seq _ (.seq _ (.seq _ (.cond _ r _))) => r | c => c
theorem den26 (n e0 e p m : Int) (s : ByteArray) (S : St) : (den D (gamX [] []) (isRaw []) [] [] 19 ⟨4, 0⟩ 0 (thenOf (codeOf Tryd.f89)) (fun x _ s' => x = .normal ∧ s' = S) (t26 e) (stF n e0 x0 s p m [.int .i64 e])) = (Ex.normal = Ex.normal ∧ stF 0 e x0 s p m [.int .i64 e] = S) := by kernel_rfl
theorem catch_fail {g : G Tryd.prog} {n e0 e p m : Int} {s : ByteArray} {w : World} (hg : Good g (stF n e0 x0 s p m []) w) {v0 v1 v2 : Value} (h0 : R g (.pt 0 0) v0) (h1 : R g (.pt 1 0) v1) (h2 : R g (.pt 2 0) v2) :
    CallsDIn (WF none) 0 Tryd.prog 89 #[v0, v1, v2] (.panicking [{ v := .iface 113 (.agg #[.int .i64 e]), recovered := false }]) w fun e' u' w' => e' = .returned (.tuple #[]) ∧ u' = .panicking [{ v := .iface 113 (.agg #[.int .i64 e]), recovered := true }] ∧
      ∃ g', Good g' (stF 0 e x0 s p m [.int .i64 e]) w' ∧ Step ⟨4, 0⟩ g (stF n e0 x0 s p m []) w g' (stF 0 e x0 s p m [.int .i64 e]) w' := by
  refine callsDIn_of_wpSIn Tryd.func89 (c := codeOf Tryd.f89) rfl trivial fun c₀ cs hu => ?_
  apply wpSIn_seq
  apply wpSIn_region
  simp [wpOpsSIn, go_sem, recoverD, hu, Tryd.ntmps89, Exit.thenS]
  apply wpSIn_seq
  apply wpSIn_region
  simp [wpOpsSIn, go_sem, Exit.thenS, assert_fail]
  apply wpSIn_seq
  apply wpSIn_region
  simp [wpOpsSIn, go_sem, Exit.thenS]
  refine wpSIn_cond (t := true) (by simp [Act.eval]) ?_
  simp only [if_true]
  refine wpSIn_of_wpIn rfl ?_
  obtain ⟨g1, k1, k2, k3, k4⟩ := good_alloc (z := [.int .i64 e]) (xs := #[.int .i64 e]) hg 113 (.ag _ _ rfl (fun i c x hc hx => by
    match i, hc, hx with
    | 0, hc, hx => simp at hc hx; subst hc; subst hx; exact .int _ _
    | i + 1, hc, hx => simp at hc) (fun i x hx => by
    match i, hx with
    | 0, hx => simp at hx; subst hx; rfl
    | i + 1, hx => simp at hx))
  letI B : Bd Tryd.prog := bdS Tryd.prog [] (by simp)
  refine wpIn_mono (@den_sound Tryd.prog B D (gamX [] []) (isRaw []) 19 ⟨4, 0⟩ D_ok (gamX_ok (rs := []) (l := []) (fun p hp => by cases hp) (fun p hp => by cases hp)) gamX_det rfl [] [] 0 (thenOf (codeOf Tryd.f89)) (yOk_of (by kernel_rfl)) _ _ _ (Eq.mpr (den26 n e0 e p m s _) ⟨rfl, rfl⟩) none (.inr (by kernel_rfl)) g1 _ _ k1 ?ht) ?_
  case ht =>
    refine ⟨by simp, ⟨[], rfl, fun _ => rfl, by simp⟩, by simp, R_list _ ?_⟩
    simp only [t26, List.forall_mem_cons, List.not_mem_nil, false_imp_iff, implies_true, and_true]
    refine ⟨by simpa using h0.mono k2, by simpa using h1.mono k2, by simpa using h2.mono k2, ?_, by simpa [stF] using k4⟩
    simp
    refine .ic 113 _ _ (.ag _ _ rfl (fun i c x hc hx => by
      match i, hc, hx with
      | 0, hc, hx => simp at hc hx; subst hc; subst hx; exact .int _ _
      | i + 1, hc, hx => simp at hc) (fun i x hx => by
      match i, hx with
      | 0, hx => simp at hx; subst hx; rfl
      | i + 1, hx => simp at hx))
  rintro x a' w' ⟨x0, g', t', st', ⟨rfl, rfl⟩, q1, q2, q3, q4⟩
  cases x <;> first | (exact q1.elim) | skip
  obtain ⟨ms, m1, m2, _⟩ := q3.defers
  have m1 : a'.defers = ms ++ [] := m1
  rw [m2 rfl] at m1
  exact ⟨m1, _, rfl, .tuple #[], by simp [results, Tryd.results89], rfl, rfl, g', q2, (k3 ⟨4, 0⟩).trans q4⟩

theorem put_defers {a : Act} {d : Option Tmp} {x : Value} : (a.put d x).defers = a.defers := by cases d <;> rfl
theorem dops_pre {P : Program} {D : TD} {Γ : Gam} {n : Nat} (hD : TDok P D) (hΓ : GamOk P Γ) {ops : Array Oper} {Q' : Exit → Act → World → Prop} {A : Tm → St → Prop} {rest : List Oper} : ∀ (l : List Oper) (g : G P) (st : St) (w : World) (t : Tm) (a : Act), Good g st w → RelT g n t a → dops D Γ n ops l t st A (fun _ _ _ => False) →
    (∀ g' st' w' t' a', A t' st' → Good g' st' w' → RelT g' n t' a' → g.le g' → (∀ b0, Step b0 g st w g' st' w') → a'.defers = a.defers → wpListIn (WF none) 0 P ops Q' rest a' w') → wpListIn (WF none) 0 P ops Q' (l ++ rest) a w
  | [], g, st, w, t, a, hg, ht, h, hq => hq g st w t a h hg ht (G.le_refl g) (fun _ => Step.refl) rfl
  | o :: r, g, st, w, t, a, hg, ht, h, hq => by
    unfold dops at h
    rw [List.cons_append]
    unfold wpListIn
    rcases dguard_sound ht h with ⟨t1, ht1, h, hw⟩ | ⟨t1, ht1, h, hw⟩
    · rw [if_pos hw]
      refine dop_sound hD hΓ hg ht1 h none _ _ (fun v s' x g' w' hk g1 l1 s1 r1 => ?_) (fun u s' v g' w' hx g1 l1 s1 r1 => hx.elim)
      obtain ⟨t2, k1, k2⟩ := (ht1.mono l1.le).fin r1 hk
      exact dops_pre hD hΓ r g' s' w' t2 _ g1 k2 k1 fun g2 st2 w2 t2 a2 q1 q2 q3 q4 q5 q6 => hq g2 st2 w2 t2 a2 q1 q2 q3 (l1.le.trans q4) (fun b0 => (s1 b0).trans (q5 b0)) (q6.trans put_defers)
    · rw [if_neg (by rw [hw]; simp)]
      obtain ⟨t2, k1, k2⟩ := ht1.fin (o := o) (R.cst Go.undef) h
      exact ⟨fun _ _ => trivial, dops_pre hD hΓ r g st w t2 _ hg k2 k1 fun g2 st2 w2 t2 a2 q1 q2 q3 q4 q5 q6 => hq g2 st2 w2 t2 a2 q1 q2 q3 q4 q5 (q6.trans put_defers)⟩

def ops1 (c : Code) : List Oper := match c with | .seq (.region _ o _) _ => o.toList | _ => []
def ops2 (c : Code) : List Oper := match c with | .seq _ (.seq (.region _ o _) _) => o.toList | _ => []
def rest2 (c : Code) : Code := match c with | .seq _ (.seq _ r) => r | c => c
theorem code12 : codeOf Tryd.f54 = .seq (.region 0 (ops1 (codeOf Tryd.f54)).toArray false) (.seq (.region 1 (ops2 (codeOf Tryd.f54)).toArray false) (rest2 (codeOf Tryd.f54))) := by kernel_rfl
abbrev rs12 : List ResultVar := [.cell 2 58, .cell 3 3, .cell 4 26]
def q12 (A : Kn) (B : Kn) : Kc := fun x t s => match x with
  | .ret => dres D t s rs12 fun l => A (resV l) s
  | .pan v => get t 2 = .pt 0 0 ∧ get t 3 = .pt 1 0 ∧ get t 4 = .pt 2 0 ∧ B v s
  | _ => False
def st12 : St := [some (.cells x0), some (.cells [.int .i64 0]), some (.cells [.int .i64 0])]
def t12 (s : ByteArray) : Tm := [(0, .str s), (2, .pt 0 0), (3, .pt 1 0), (4, .pt 2 0)]
def ok12 (K : Kn) (s : ByteArray) (a : Sx × Nat × List UInt8) : Prop := K (.tu [.ag [.bool a.1.isList, .str a.1.atom, .sl false .sexp a.1.list], .int .i64 ((s.size : Int) - (a.2.2.length : Int)), .int .i64 0]) []
def er12 (K : Kn) (e : Int) : Prop := K (.tu [.ag x0, .int .i64 0, .int .i64 e]) []
theorem den12 (s : ByteArray) (K B : Kn) : (den D (gamX [(90, rw90)] []) (isRaw [(90, rw90)]) [] [] 17 ⟨3, 0⟩ 0 (rest2 (codeOf Tryd.f54)) (q12 (settle0 K) B) (t12 s) st12) =
    (sexpPre (1, s, 0, 0, ()) ∧ Res.go (rdS ((13 : Int) - 1).toNat (0 : Int).toNat ((bl s).drop (0 : Int).toNat)) (ok12 K s)
      (fun e => ∀ (p m : Int), (T.pt 0 0 = .pt 0 0 ∧ T.pt 1 0 = .pt 1 0 ∧ T.pt 2 0 = .pt 2 0 ∧ B (.ic 113 (.ag [.int .i64 e])) (stF 0 0 x0 s p m [])))) := by kernel_rfl
theorem res12 (s : ByteArray) (K : Kn) (e p m : Int) : (dres D [(2, .pt 0 0), (3, .pt 1 0), (4, .pt 2 0)] (stF 0 e x0 s p m [.int .i64 e]) rs12 fun l => settle0 K (resV l) (stF 0 e x0 s p m [.int .i64 e])) = er12 K e := by kernel_rfl
theorem pre12 (s : ByteArray) (A : Tm → St → Prop) : dops D (gamX [] []) 17 (ops1 (codeOf Tryd.f54)).toArray (ops1 (codeOf Tryd.f54)) [(0, .str s)] [] A (fun _ _ _ => False) = A [(0, .str s), (2, .pt 0 0), (3, .pt 1 0), (4, .pt 2 0)] st12 := by kernel_rfl
theorem pre12' (s : ByteArray) (A : Tm → St → Prop) : dops D (gamX [] []) 17 (ops2 (codeOf Tryd.f54)).toArray ((ops2 (codeOf Tryd.f54)).take 1) (t12 s) st12 A (fun _ _ _ => False) = A (put (t12 s) 6 (.fn 89 [] [.pt 0 0, .pt 1 0, .pt 2 0])) st12 := by kernel_rfl
theorem pt_kept {P : Program} {b0 : B0} {g g' : G P} {st st' : St} {w w' : World} (h : Step b0 g st w g' st' w') {k : Nat} {cs : List T} (hk : k < b0.b) (ho : st[k]? = some (some (.cells cs))) {y : Value} (hr : R g (.pt k 0) y) : R g' (.pt k 0) y := by
  obtain ⟨_, _, _, h3⟩ := h.kept k hk _ ho
  cases hr with
  | pt _ _ oi h1 => exact .pt _ _ oi (by rw [h3]; exact h1)
theorem step_less {P : Program} {b0 : B0} {g g' : G P} {st st' : St} {w w' : World} (h : Step b0 g st w g' st' w') : Step ⟨0, 0⟩ g st w g' st' w' :=
  { h with kept := fun _ h => absurd h (Nat.not_lt_zero _), fixd := fun _ h => absurd h (Nat.not_lt_zero _) }
def op21 (c : Code) : Oper := (ops2 c).getD 1 default
theorem df12_is : (ops2 (codeOf Tryd.f54)).drop 1 = [(op21 (codeOf Tryd.f54))] := by kernel_rfl
theorem df12_op : (op21 (codeOf Tryd.f54)).op = .defer { callee := .value (.tmp 6), args := #[], argTypes := #[] } := by kernel_rfl
theorem df12_guard : (op21 (codeOf Tryd.f54)).guard = none := by kernel_rfl
theorem df12_dst : (op21 (codeOf Tryd.f54)).dst = none := by kernel_rfl
def erB (K : Kn) (s : ByteArray) : Kn := fun v s' => ∃ e p m, v = .ic 113 (.ag [.int .i64 e]) ∧ s' = stF 0 0 x0 s p m [] ∧ er12 K e
theorem F54_ok (s : ByteArray) (K X : Kn) (hs : sexpPre (1, s, 0, 0, ())) (h : Res.go (rdS 12 0 (bl s)) (ok12 K s) (er12 K)) : FCalls Tryd.prog 54 [.str s] [] K X := by
  refine FCalls.settle0 fun g w hg => Atc.of (by unfold enters; rw [Tryd.func54]; kernel_rfl) fun args hrl => ?_
  refine callsIn_wide.1 (callsIn_of_wp_marks (F := WF none) (n := 0) Tryd.func54 (c := codeOf Tryd.f54) rfl trivial ?_)
  rw [code12, Tryd.ntmps54]
  have hΓ : GamOk Tryd.prog (gamX [] []) := gamX_ok (rs := []) (l := []) (fun p hp => by cases hp) (fun p hp => by cases hp)
  refine wpIn_seq (wpIn_region_lit (Eq.mp (congrArg (fun L => wpListIn (WF none) 0 Tryd.prog (ops1 (codeOf Tryd.f54)).toArray _ L _ w) (List.append_nil (ops1 (codeOf Tryd.f54)))) (dops_pre (rest := []) D_ok hΓ (ops1 (codeOf Tryd.f54)) g [] w (initT 0 [.str s]) _ hg (RelT_init (n := 17) hrl (by simp)) (Eq.mpr (pre12 s fun t' s' => t' = t12 s ∧ s' = st12) ⟨rfl, rfl⟩) ?_)))
  rintro g1 _ w1 _ a1 ⟨rfl, rfl⟩ p1 p2 p3 p4 p5
  refine wpIn_seq (wpIn_region_lit (Eq.mp (congrArg (fun L => wpListIn (WF none) 0 Tryd.prog (ops2 (codeOf Tryd.f54)).toArray _ L _ w1) (List.take_append_drop 1 (ops2 (codeOf Tryd.f54)))) (dops_pre (rest := (ops2 (codeOf Tryd.f54)).drop 1) D_ok hΓ ((ops2 (codeOf Tryd.f54)).take 1) g1 st12 w1 (t12 s) a1 p1 p2 (Eq.mpr (pre12' s fun t' s' => t' = put (t12 s) 6 (.fn 89 [] [.pt 0 0, .pt 1 0, .pt 2 0]) ∧ s' = st12) ⟨rfl, rfl⟩) ?_)))
  rintro g2 _ w2 _ a2 ⟨rfl, rfl⟩ r1 r2 r3 r4 r5
  rw [df12_is]
  unfold wpListIn
  rw [if_pos (by simp [Region.wanted, df12_guard])]
  refine ⟨fun _ _ => trivial, ?_⟩
  have hv : R g2 (.fn 89 [] [.pt 0 0, .pt 1 0, .pt 2 0]) (a2.tmps.getD 6 Go.undef) := r2.val 6
  obtain ⟨y0, y1, y2, e6, z0, z1, z2⟩ : ∃ y0 y1 y2, a2.tmps.getD 6 Go.undef = .func (.func 89) #[] #[y0, y1, y2] ∧ R g2 (.pt 0 0) y0 ∧ R g2 (.pt 1 0) y1 ∧ R g2 (.pt 2 0) y2 := by
    generalize a2.tmps.getD 6 Go.undef = z at hv
    cases hv with
    | fn _ _ _ xs ys k0 k1 k2 k3 k4 =>
      obtain rfl : xs = #[] := Array.eq_empty_of_size_eq_zero (by simpa using k1.symm)
      obtain ⟨l⟩ := ys
      match l, k2, k4 with
      | [y0, y1, y2], _, k4 => exact ⟨y0, y1, y2, rfl, k4 0 _ _ rfl rfl, k4 1 _ _ rfl rfl, k4 2 _ _ rfl rfl⟩
    | yl _ _ yi _ _ k0 => cases k0
  have hrun : ((op21 (codeOf Tryd.f54)).semAt (WF none).round a2.eval).run Tryd.prog w2 = .ok (.defer { target := .fn (.func 89) #[y0, y1, y2], args := #[] }) w2 := by
    show (execOp a2.eval (op21 (codeOf Tryd.f54))).run Tryd.prog w2 = _
    simp [execOp, df12_op, resolve, Act.eval, e6, Deferred.ofValue, go_sem]
  rw [hrun, Oper.uponIn_defer]
  obtain ⟨o0, rfl, u0⟩ : ∃ oi : OI, y0 = .pointer (some ⟨oi.b, 0, none⟩) ∧ g2.ob 0 0 = some oi := by cases z0 with | pt _ _ oi k => exact ⟨oi, rfl, k⟩
  obtain ⟨o1, rfl, u1⟩ : ∃ oi : OI, y1 = .pointer (some ⟨oi.b, 0, none⟩) ∧ g2.ob 1 0 = some oi := by cases z1 with | pt _ _ oi k => exact ⟨oi, rfl, k⟩
  obtain ⟨o2, rfl, u2⟩ : ∃ oi : OI, y2 = .pointer (some ⟨oi.b, 0, none⟩) ∧ g2.ob 2 0 = some oi := by cases z2 with | pt _ _ oi k => exact ⟨oi, rfl, k⟩
  have rsz := r2.size
  have rv := r2.val
  letI B : Bd Tryd.prog := bdS Tryd.prog [{ target := .fn (.func 89) #[.pointer (some ⟨o0.b, 0, none⟩), .pointer (some ⟨o1.b, 0, none⟩), .pointer (some ⟨o2.b, 0, none⟩)], args := #[] }] (by
    intro d hd D e
    simp only [List.mem_cons, List.not_mem_nil, or_false] at hd
    rw [hd] at e
    cases e)
  have hd0 : a2.defers = [] := by rw [r5, p5]
  have h' : sexpPre (1, s, 0, 0, ()) ∧ Res.go (rdS ((13 : Int) - 1).toNat (0 : Int).toNat ((bl s).drop (0 : Int).toNat)) (ok12 K s)
      (fun e => ∀ (p m : Int), (T.pt 0 0 = .pt 0 0 ∧ T.pt 1 0 = .pt 1 0 ∧ T.pt 2 0 = .pt 2 0 ∧ (erB K s) (.ic 113 (.ag [.int .i64 e])) (stF 0 0 x0 s p m []))) := by
    refine ⟨hs, ?_⟩
    show Res.go (rdS 12 0 (bl s)) _ _
    cases hr : rdS 12 0 (bl s) with
    | ok a => rw [hr] at h; exact h
    | err e => rw [hr] at h; exact fun p m => ⟨rfl, rfl, rfl, e, p, m, rfl, rfl, h⟩
  have hrs : GamOk Tryd.prog (gamX [(90, rw90)] []) := gamX_ok (rs := [(90, rw90)]) (l := []) (by intro p hp; simp only [List.mem_cons, List.not_mem_nil, or_false] at hp; subst hp; exact rw90_ok) (fun p hp => by cases hp)
  refine wpIn_mono (@den_sound Tryd.prog B D (gamX [(90, rw90)] []) (isRaw [(90, rw90)]) 17 ⟨3, 0⟩ D_ok hrs gamX_det rfl [] [] 0 (rest2 (codeOf Tryd.f54)) (yOk_of (by kernel_rfl)) _ _ _ (Eq.mpr (den12 s K (erB K s)) h') none (.inr (by kernel_rfl)) g2 w2 _ r1 ?ht) ?_
  case ht =>
    refine ⟨?_, ⟨[], ?_, fun _ => rfl, by simp⟩, ?_, R_list _ ?_⟩
    · rw [df12_dst]; exact rsz
    · rw [df12_dst]; show _ :: a2.defers = _; rw [hd0]; rfl
    · rw [df12_dst]; simp [Act.put, hd0]
    · rw [df12_dst]
      simp only [t12, List.forall_mem_cons, List.not_mem_nil, false_imp_iff, implies_true, and_true]
      exact ⟨rv 0, rv 2, rv 3, rv 4⟩
  rintro x a' w' ⟨x0', g', t', st', hq, q1, q2, q3, q4⟩
  obtain ⟨ms, m1, m2, _⟩ := q3.defers
  have m1 : a'.defers = ms ++ B.bd := m1
  rw [m2 rfl, List.nil_append] at m1
  have hst : Step ⟨0, 0⟩ g [] w g' st' w' := ((p4 _).trans (r4 _)).trans (step_less q4)
  have b0 := pt_kept q4 (k := 0) (by decide) rfl z0
  have b1 := pt_kept q4 (k := 1) (by decide) rfl z1
  have b2 := pt_kept q4 (k := 2) (by decide) rfl z2
  have hinv : ∀ w : World, (invoke (.fn (.func 89) #[.pointer (some ⟨o0.b, 0, none⟩), .pointer (some ⟨o1.b, 0, none⟩), .pointer (some ⟨o2.b, 0, none⟩)]) #[]).run Tryd.prog w = .ok (.enter 89 #[.pointer (some ⟨o0.b, 0, none⟩), .pointer (some ⟨o1.b, 0, none⟩), .pointer (some ⟨o2.b, 0, none⟩)]) w := fun w => by
    simp [invoke, go_sem]
  cases x0' with
  | ret =>
    cases x <;> first | (exact q1.elim) | skip
    show LeavesInM (WF none) 0 Tryd.prog Tryd.f54 a'.tmps _ a'.defers .returning w'
    rw [m1]
    refine ⟨by simp, .inr ⟨fun h => (by cases h), .func 89, _, 89, _, rfl, hinv w', fun _ _ => trivial, (catch_idle _ _ _ w').mono ?_⟩⟩
    rintro e u' w3 ⟨rfl, rfl, y, rfl⟩
    obtain ⟨v1, v2⟩ := good_ext (w' := w'.alloc (.cells #[y] 113)) q2 rfl rfl rfl (by show w'.heap.size ≤ (w'.heap.push _).size; simp) (fun b hb => Below.heap_alloc w' _ b hb)
    have ht : @RelT Tryd.prog bdNone g' 17 t' { tmps := a'.tmps, defers := [] } := @RelT.mk Tryd.prog bdNone _ _ _ _ q3.size ⟨[], rfl, fun _ => rfl, by simp⟩ (by simp) q3.val
    obtain ⟨x, v, c1, c2, c3⟩ := results_sound (fn := Tryd.f54) (K := fun v => settle0 K v st') D_ok v1 ht hq
    exact ⟨x, c2, g', st', v1, hst.trans (v2 _), v, c1, c3⟩
  | pan v =>
    cases x <;> first | (exact q1.elim) | skip
    obtain ⟨t0, t1, t2, e, p, m, rfl, rfl, hk⟩ := hq
    obtain ⟨v, rfl, hv⟩ := q1
    obtain rfl : v = .iface 113 (.agg #[.int .i64 e]) := by
      cases hv with
      | ic _ _ x hx =>
        cases hx with
        | ag _ xs k1 k2 k3 =>
          obtain ⟨l⟩ := xs
          match l, k1, k2 with
          | [z], _, k2 =>
            have := k2 0 _ _ rfl rfl
            cases this
            rfl
    show LeavesInM (WF none) 0 Tryd.prog Tryd.f54 a'.tmps _ a'.defers (.panicking _) w'
    rw [m1]
    refine ⟨by simp, .inr ⟨fun h => (by cases h), .func 89, _, 89, _, rfl, hinv w', fun _ _ => trivial, (catch_fail q2 b0 b1 b2).mono ?_⟩⟩
    rintro e' u' w3 ⟨rfl, rfl, g3, v1, v2⟩
    have c0 := pt_kept v2 (k := 0) (by decide) rfl (t0 ▸ q3.val 2)
    have c1 := pt_kept v2 (k := 1) (by decide) rfl (t1 ▸ q3.val 3)
    have c2 := pt_kept v2 (k := 2) (by decide) rfl (t2 ▸ q3.val 4)
    have ht : @RelT Tryd.prog bdNone g3 17 [(2, .pt 0 0), (3, .pt 1 0), (4, .pt 2 0)] { tmps := a'.tmps, defers := [] } := @RelT.mk Tryd.prog bdNone _ _ _ _ q3.size ⟨[], rfl, fun _ => rfl, by simp⟩ (by simp) (R_list _ (by
      simp only [List.forall_mem_cons, List.not_mem_nil, false_imp_iff, implies_true, and_true]
      exact ⟨c0, c1, c2⟩))
    obtain ⟨x, v, c1, c2, c3⟩ := results_sound (fn := Tryd.f54) (K := fun v => settle0 K v (stF 0 e x0 s p m [.int .i64 e])) D_ok v1 ht (Eq.mpr (res12 s K e p m) hk)
    exact ⟨x, c2, g3, _, v1, hst.trans (step_less v2), v, c1, c3⟩
  | _ => exact hq.elim
end Go.Proofs.YtoclmkbjgmgekaaDoor
/-
  Csexp: Read, as a contract; what the checks yield.
-/
namespace Go.Proofs.YtoclmkbjgmgekaaDoor
set_option linter.unusedVariables false
set_option linter.unusedSimpArgs false
set_option linter.unusedSectionVars false
open Go.RowKit

def rdT (s : ByteArray) : Sx × Int × Int := match rdS 12 0 (bl s) with
  | .ok a => (a.1, (s.size : Int) - (a.2.2.length : Int), 0)
  | .err e => (⟨false, ⟨#[]⟩, []⟩, 0, e)
def topP (s : ByteArray) : Prop := s.size ≤ 2147483648
def sp54 : Sp := ⟨[.leaf], [.str], fun g => topP g.1, fun g => .tu [.ag [.bool (rdT g.1).1.isList, .str (rdT g.1).1.atom, .sl false .sexp (rdT g.1).1.list], .int .i64 (rdT g.1).2.1, .int .i64 (rdT g.1).2.2], fun _ => none⟩
theorem wkK_nil3 {K : Kn} {b : Bool} {a : ByteArray} {v u : T} {s : St} (h : K (.tu [.ag [.bool b, .str a, .sl false .sexp []], v, u]) s) : wkK K (.tu [.ag [.bool b, .str a, .nil], v, u]) s :=
  ⟨_, Weak.tu (WeakL.cons weak_nil (WeakL.cons (Weak.refl _) (WeakL.cons (Weak.refl _) WeakL.nil))), h⟩
theorem sp54_ok : sp54.Ok Tryd.prog 54 false :=
  ⟨by
    rintro ⟨s, ⟨⟩⟩ K X q1 h
    have q1 : s.size ≤ 2147483648 := q1
    have h : K (.tu [.ag [.bool (rdT s).1.isList, .str (rdT s).1.atom, .sl false .sexp (rdT s).1.list], .int .i64 (rdT s).2.1, .int .i64 (rdT s).2.2]) [] := h
    refine FCalls.weak (F54_ok s _ X ⟨⟨Int.le_refl 1, (by omega : (1 : Int) ≤ 13)⟩, ⟨Int.le_refl 0, Int.natCast_nonneg _, (by unfold lim; omega : s.size ≤ 2 * lim)⟩, Int.le_refl 0, (by omega : (0 : Int) ≤ 20000)⟩ ?_)
    unfold rdT at h
    cases hr : rdS 12 0 (bl s) with
    | ok a => rw [hr] at h; exact wkK_of h
    | err e => rw [hr] at h; exact wkK_nil3 h, fun _ _ _ => rfl, fun _ => rfl, fun h => (by cases h)⟩
/-- csexp.Check, quiltref01.Check. -/
def ckG (x : Sx) : Int := if (madd x 0 false 1).2 = true then 4 else shS x
def ckN (x : Sx) : Int := if 20000 < cnt x 20000 12 then 4 else ckR x
def sx0 : Sx := ⟨false, ⟨#[]⟩, []⟩
/-- Decode, of both. -/
def dcT (s : ByteArray) : Sx × Int := if (rdT s).2.2 = 0 then (if (rdT s).2.1 = (s.size : Int) then ((rdT s).1, 0) else (sx0, 12)) else (sx0, (rdT s).2.2)
/-- Int, of both. -/
def intB (n : Int) : Sx × Int := if n < -1099511627776 ∨ 1099511627776 < n then (sx0, 2) else (⟨false, decB n, []⟩, 0)
end Go.Proofs.YtoclmkbjgmgekaaDoor

/- What functions come to: printed by exf.py. -/
namespace Go.Proofs.YtoclmkbjgmgekaaDoor
set_option linter.unusedVariables false
set_option linter.unusedSimpArgs false
set_option linter.unusedSectionVars false
open Go.RowKit
attribute [local irreducible] dfun dround
/-- quilt/csexp.Decode -/
def H33 : List (Nat × Hint) := []
def J33 : List (Nat × Hint) := []
abbrev S33 : List Sh := [.leaf]
abbrev L33 : List Lf := [.str]
def F33 (g : prodL L33) (K : Kn) : Prop :=
  sp54.pre (g.1, ()) ∧
  bif !decide ((rdT g.1).2.2 = 0) then (
    K (.tu [.ag [.bool false, .str (⟨#[]⟩ : ByteArray), .nil], .int .i64 ((rdT g.1).2.2)]) [])
  else (
    bif !decide ((rdT g.1).2.1 = (g.1.size : Int)) then (
    K (.tu [.ag [.bool false, .str (⟨#[]⟩ : ByteArray), .nil], .int .i64 12]) [])
  else (
    K (.tu [.ag [.bool ((rdT g.1).1.isList), .str ((rdT g.1).1.atom), .sl false .sexp ((rdT g.1).1.list)], .int .i64 0]) []))
theorem F33_eq (g : prodL L33) (K X : Kn) : F33 g K = dfun D (gamX [] [(54, false, sp54)]) (isRaw []) H33 J33 23 [.cell 2 58, .tmp 3] (codeOf Tryd.f33) (argsT S33 L33 g) [] (settle0 K) X := by kernel_rfl
theorem F33_ok (g : prodL L33) (K X : Kn) (h : F33 g K) : FCalls Tryd.prog 33 (argsT S33 L33 g) [] K X :=
  FCalls.settle0 (dfun_sound (Γ := gamX [] [(54, false, sp54)]) (mu := isRaw []) (H := H33) (J := J33) D_ok (gamX_ok (rs := []) (l := [(54, false, sp54)]) (fun p hp => by cases hp) (by intro p hp; simp only [List.mem_cons, List.not_mem_nil, or_false] at hp; subst hp; exact sp54_ok)) gamX_det rfl Tryd.func33 (c := codeOf Tryd.f33) rfl Tryd.ntmps33 (rs := [.cell 2 58, .tmp 3]) Tryd.results33 (by unfold enters; rw [Tryd.func33]; kernel_rfl) (Nat.le_of_ble_eq_true (by kernel_rfl)) (X := X) (c0 := 0) (Eq.mp (F33_eq g K X) h))
/-- quilt/csexp.Check -/
def H73 : List (Nat × Hint) := []
def J73 : List (Nat × Hint) := []
abbrev S73 : List Sh := [.ag [.leaf, .leaf, .leaf]]
abbrev L73 : List Lf := [.bool, .str, .sl .sexp]
def F73 (g : prodL L73) (K : Kn) : Prop :=
  addPre (g.1, g.2.1, g.2.2.1, 1, 0, false, ()) ∧
  bif (madd ⟨g.1, g.2.1, g.2.2.1⟩ 0 false 1).2 then (
    K (.int .i64 4) [])
  else (
    sp94.pre (g.1, g.2.1, g.2.2.1, ()) ∧
  K (.int .i64 (shS ⟨g.1, g.2.1, g.2.2.1⟩)) [])
theorem F73_eq (g : prodL L73) (K X : Kn) : F73 g K = dfun D (gamX [(93, rw93)] [(94, true, sp94)]) (isRaw [(93, rw93)]) H73 J73 15 [.tmp 2] (codeOf Tryd.f73) (argsT S73 L73 g) [] (settle0 K) X := by kernel_rfl
theorem F73_ok (g : prodL L73) (K X : Kn) (h : F73 g K) : FCalls Tryd.prog 73 (argsT S73 L73 g) [] K X :=
  FCalls.settle0 (dfun_sound (Γ := gamX [(93, rw93)] [(94, true, sp94)]) (mu := isRaw [(93, rw93)]) (H := H73) (J := J73) D_ok (gamX_ok (rs := [(93, rw93)]) (l := [(94, true, sp94)]) (by intro p hp; simp only [List.mem_cons, List.not_mem_nil, or_false] at hp; subst hp; exact rw93_ok) (by intro p hp; simp only [List.mem_cons, List.not_mem_nil, or_false] at hp; subst hp; exact sp94_ok)) gamX_det rfl Tryd.func73 (c := codeOf Tryd.f73) rfl Tryd.ntmps73 (rs := [.tmp 2]) Tryd.results73 (by unfold enters; rw [Tryd.func73]; kernel_rfl) (Nat.le_of_ble_eq_true (by kernel_rfl)) (X := X) (c0 := 0) (Eq.mp (F73_eq g K X) h))
/-- quilt/quiltref01.Check -/
def H44 : List (Nat × Hint) := []
def J44 : List (Nat × Hint) := []
abbrev S44 : List Sh := [.ag [.leaf, .leaf, .leaf]]
abbrev L44 : List Lf := [.bool, .str, .sl .sexp]
def F44 (g : prodL L44) (K : Kn) : Prop :=
  sp83.pre (g.1, g.2.1, g.2.2.1, 20000, 12, ()) ∧
  bif decide (20000 < cnt ⟨g.1, g.2.1, g.2.2.1⟩ 20000 12) then (
    K (.int .i64 4) [])
  else (
    sp84.pre (g.1, g.2.1, g.2.2.1, ()) ∧
  K (.int .i64 (ckR ⟨g.1, g.2.1, g.2.2.1⟩)) [])
theorem F44_eq (g : prodL L44) (K X : Kn) : F44 g K = dfun D (gamX [] [(83, true, sp83), (84, true, sp84)]) (isRaw []) H44 J44 8 [.tmp 2] (codeOf Tryd.f44) (argsT S44 L44 g) [] (settle0 K) X := by kernel_rfl
theorem F44_ok (g : prodL L44) (K X : Kn) (h : F44 g K) : FCalls Tryd.prog 44 (argsT S44 L44 g) [] K X :=
  FCalls.settle0 (dfun_sound (Γ := gamX [] [(83, true, sp83), (84, true, sp84)]) (mu := isRaw []) (H := H44) (J := J44) D_ok (gamX_ok (rs := []) (l := [(83, true, sp83), (84, true, sp84)]) (fun p hp => by cases hp) (by intro p hp; simp only [List.mem_cons, List.not_mem_nil, or_false] at hp; rcases hp with rfl | rfl <;> first | exact sp83_ok | exact sp84_ok)) gamX_det rfl Tryd.func44 (c := codeOf Tryd.f44) rfl Tryd.ntmps44 (rs := [.tmp 2]) Tryd.results44 (by unfold enters; rw [Tryd.func44]; kernel_rfl) (Nat.le_of_ble_eq_true (by kernel_rfl)) (X := X) (c0 := 0) (Eq.mp (F44_eq g K X) h))
/-- quilt/csexp.Int -/
def H97 : List (Nat × Hint) := []
def J97 : List (Nat × Hint) := [(2, ⟨[((2, []), none)], [(0, .leaf), (2, .pt 0 0), (9, .leaf)], [.cells [.leaf, .leaf, .nil]], [.int .i64, .bool, .bool, .str]⟩)]
abbrev S97 : List Sh := [.leaf]
abbrev L97 : List Lf := [.int .i64]
def F97_J2 (K : Kn) (n_1 : Int) (t_1 : Bool) (t1_1 : Bool) (t2_1 : ByteArray) : Prop :=
  bif t_1 then (
    K (.tu [.ag [.bool false, .str (⟨#[]⟩ : ByteArray), .nil], .int .i64 2]) [])
  else (
    sp36.pre (n_1, ()) ∧
  K (.tu [.ag [.bool false, .str (decB n_1), .nil], .int .i64 0]) [])
def F97 (g : prodL L97) (K : Kn) : Prop :=
  bif decide (g.1 < (-1099511627776)) then (
    F97_J2 K g.1 true false (⟨#[]⟩ : ByteArray))
  else (
    F97_J2 K g.1 (decide (1099511627776 < g.1)) false (⟨#[]⟩ : ByteArray))
theorem F97_eq (g : prodL L97) (K X : Kn) : F97 g K = dfun D (gamX [] [(36, true, sp36)]) (isRaw []) H97 J97 14 [.cell 2 58, .tmp 3] (codeOf Tryd.f97) (argsT S97 L97 g) [] (settle0 K) X := by kernel_rfl
theorem F97_ok (g : prodL L97) (K X : Kn) (h : F97 g K) : FCalls Tryd.prog 97 (argsT S97 L97 g) [] K X :=
  FCalls.settle0 (dfun_sound (Γ := gamX [] [(36, true, sp36)]) (mu := isRaw []) (H := H97) (J := J97) D_ok (gamX_ok (rs := []) (l := [(36, true, sp36)]) (fun p hp => by cases hp) (by intro p hp; simp only [List.mem_cons, List.not_mem_nil, or_false] at hp; subst hp; exact sp36_ok)) gamX_det rfl Tryd.func97 (c := codeOf Tryd.f97) rfl Tryd.ntmps97 (rs := [.cell 2 58, .tmp 3]) Tryd.results97 (by unfold enters; rw [Tryd.func97]; kernel_rfl) (Nat.le_of_ble_eq_true (by kernel_rfl)) (X := X) (c0 := 0) (Eq.mp (F97_eq g K X) h))
end Go.Proofs.YtoclmkbjgmgekaaDoor

/-
  Csexp: decimal forms.
-/
namespace Go.Proofs.YtoclmkbjgmgekaaDoor
set_option linter.unusedVariables false
set_option linter.unusedSimpArgs false
set_option linter.unusedSectionVars false
open Go.RowKit

/-- What digits spell. -/
def dg1 (a : Nat) (c : UInt8) : Nat := 10 * a + (c.toNat - 48)
def dv (a : Nat) (l : List UInt8) : Nat := l.foldl dg1 a
theorem dv_nil (a : Nat) : dv a [] = a := rfl
theorem dv_cons (a : Nat) (c : UInt8) (l : List UInt8) : dv a (c :: l) = dv (10 * a + (c.toNat - 48)) l := List.foldl_cons ..
theorem dv_app : ∀ (l m : List UInt8) (a : Nat), dv a (l ++ m) = dv (dv a l) m
  | [], _, _ => by rw [dv_nil, List.nil_append]
  | c :: l, m, a => by rw [List.cons_append, dv_cons, dv_cons, dv_app l m]
theorem dv_le : ∀ (l : List UInt8) (a : Nat), a ≤ dv a l
  | [], a => Nat.le_refl a
  | c :: l, a => by
    have h := dv_le l (10 * a + (c.toNat - 48))
    rw [dv_cons]
    generalize dv (10 * a + (c.toNat - 48)) l = z at h
    omega
attribute [irreducible] dv
theorem digsA (l m : List UInt8) : digs (l ++ m) = (digs l && digs m) := by simp [digs]
theorem digsC (c : UInt8) (l : List UInt8) : digs (c :: l) = true ↔ (48 ≤ c.toNat ∧ c.toNat ≤ 57) ∧ digs l = true := by simp [digs]
theorem dig_nat (k : Nat) (h : k < 10) : (UInt8.ofNat (48 + k)).toNat = 48 + k := by
  rw [UInt8.toNat_ofNat']; omega
theorem dec_dv (u : Nat) : dv 0 (Lib.decDigits u) = u := by
  induction u using Nat.strongRecOn with
  | ind u ih =>
    by_cases h : u < 10
    · rw [Lib.decDigits_one h]; rw [dv_cons, dv_nil, dig_nat u h]; omega
    · rw [Lib.decDigits, dif_neg h, dv_app, ih (u / 10) (by omega)]
      rw [dv_cons, dv_nil, dig_nat (u % 10) (by omega)]; omega
theorem dec_digs (u : Nat) : digs (Lib.decDigits u) = true := by
  induction u using Nat.strongRecOn with
  | ind u ih =>
    by_cases h : u < 10
    · rw [Lib.decDigits, dif_pos h]; rw [digsC, dig_nat u h]; exact ⟨by omega, rfl⟩
    · rw [Lib.decDigits, dif_neg h, digsA, ih (u / 10) (by omega), Bool.true_and, digsC, dig_nat (u % 10) (by omega)]
      exact ⟨by omega, rfl⟩
theorem dec_ne (u : Nat) : Lib.decDigits u ≠ [] := by
  by_cases h : u < 10
  · rw [Lib.decDigits, dif_pos h]; simp
  · rw [Lib.decDigits, dif_neg h]; simp
theorem dec_head (u : Nat) : head48 (Lib.decDigits u) = true → u = 0 := by
  induction u using Nat.strongRecOn with
  | ind u ih =>
    by_cases h : u < 10
    · rw [Lib.decDigits, dif_pos h]; simp only [head48, dig_nat u h, decide_eq_true_eq]; omega
    · rw [Lib.decDigits, dif_neg h]
      intro h1
      have := ih (u / 10) (by omega)
      cases hd : Lib.decDigits (u / 10) with
      | nil => exact absurd hd (dec_ne _)
      | cons c r =>
        rw [hd] at h1 this
        have := this h1
        omega
theorem dv_pos {d : List UInt8} (h1 : digs d = true) (h2 : d ≠ []) (h3 : head48 d = false) : 1 ≤ dv 0 d := by
  cases d with
  | nil => exact absurd rfl h2
  | cons c r =>
    simp only [head48, decide_eq_false_iff_not] at h3
    have := ((digsC c r).1 h1).1
    have h5 := dv_le r (10 * 0 + (c.toNat - 48))
    rw [dv_cons]
    omega
theorem dec_uniq : ∀ (n : Nat) (d : List UInt8), d.length = n → digs d = true → d ≠ [] → (head48 d = false ∨ d = [48]) → Lib.decDigits (dv 0 d) = d
  | 0, d, hn, _, h, _ => absurd (List.eq_nil_of_length_eq_zero hn) h
  | n + 1, d, hn, h1, h2, h3 => by
    obtain ⟨d', c, rfl⟩ : ∃ d' c, d = d' ++ [c] := ⟨d.dropLast, d.getLast h2, (List.dropLast_concat_getLast h2).symm⟩
    rw [digsA, Bool.and_eq_true] at h1
    obtain ⟨h1, hc⟩ := h1
    have hc := ((digsC c []).1 hc).1
    have e : UInt8.ofNat (48 + (c.toNat - 48)) = c := by
      apply UInt8.toNat_inj.1
      rw [dig_nat _ (by omega)]; omega
    rw [dv_app, dv_cons, dv_nil]
    by_cases hd : d' = []
    · subst hd
      rw [Lib.decDigits, dif_pos (by rw [dv_nil]; omega)]
      simp only [dv_nil, Nat.mul_zero, Nat.zero_add, e, List.nil_append]
    · have hh : head48 d' = false := by
        cases d' with
        | nil => exact absurd rfl hd
        | cons x r =>
          rcases h3 with h3 | h3
          · exact h3
          · simp at h3
      have hp := dv_pos h1 hd hh
      have ih := dec_uniq n d' (by simp at hn; exact hn) h1 hd (.inl hh)
      rw [Lib.decDigits, dif_neg (by omega), show (10 * dv 0 d' + (c.toNat - 48)) / 10 = dv 0 d' by omega, ih, show (10 * dv 0 d' + (c.toNat - 48)) % 10 = c.toNat - 48 by omega, e]
/-- The number of an atom. -/
def numV (l : List UInt8) : Int × Int :=
  let m := dv 0 (if l.head? = some 45 then l.tail else l)
  if 1099511627776 < m then (0, 2) else (if l.head? = some 45 then -(m : Int) else m, 0)
theorem head_digs {d : List UInt8} (h : digs d = true) : d.head? ≠ some 45 := by
  cases d with
  | nil => simp
  | cons c r =>
    have := ((digsC c r).1 h).1
    simp only [List.head?_cons, ne_eq, Option.some.injEq]
    rintro rfl
    exact absurd this.1 (by decide)
theorem can_itoa (n : Int) : canR (Lib.itoa n) = true := by
  unfold Lib.itoa
  split
  · rename_i h
    have h1 := dec_digs n.natAbs
    have h2 := dec_ne n.natAbs
    have h3 : head48 (Lib.decDigits n.natAbs) = false := by
      cases hh : head48 (Lib.decDigits n.natAbs) with
      | false => rfl
      | true => have := dec_head _ hh; omega
    simp [canR, h1, h2, h3]
  · rename_i h
    have h1 := dec_digs n.toNat
    have h2 := dec_ne n.toNat
    have h4 := head_digs h1
    simp only [canR, if_neg h4, h1, h2, decide_false, Bool.not_false, Bool.and_true, Bool.true_and, Bool.or_eq_true, Bool.not_eq_true', decide_eq_true_eq]
    cases hh : head48 (Lib.decDigits n.toNat) with
    | false => exact .inl rfl
    | true =>
      have := dec_head _ hh
      rw [this]
      exact .inr (by rw [Lib.decDigits]; rfl)
theorem num_itoa {n : Int} (h : ¬ (n < -1099511627776 ∨ 1099511627776 < n)) : numV (Lib.itoa n) = (n, 0) := by
  unfold Lib.itoa
  split
  · rename_i h'
    simp only [numV, List.head?_cons, if_true, List.tail_cons, dec_dv]
    rw [if_neg (by omega)]
    simp only [Prod.mk.injEq, and_true]; omega
  · rename_i h'
    have h4 := head_digs (dec_digs n.toNat)
    simp only [numV, if_neg h4, dec_dv]
    rw [if_neg (by omega)]
    simp only [Prod.mk.injEq, and_true]; omega
theorem itoa_num {l : List UInt8} {m : Int} (h : canR l = true) (hm : numV l = (m, 0)) : Lib.itoa m = l ∧ ¬ (m < -1099511627776 ∨ 1099511627776 < m) := by
  unfold numV at hm
  dsimp only at hm
  by_cases hb : 1099511627776 < dv 0 (if l.head? = some 45 then l.tail else l)
  · rw [if_pos hb] at hm
    simp at hm
  rw [if_neg hb] at hm
  simp only [Prod.mk.injEq, and_true] at hm
  simp only [canR, Bool.and_eq_true, Bool.not_eq_true', decide_eq_false_iff_not, Bool.or_eq_true, decide_eq_true_eq] at h
  obtain ⟨⟨h1, h2⟩, h3⟩ := h
  by_cases h45 : l.head? = some 45
  · simp only [if_pos h45] at hm h1 h2 h3 hb
    obtain ⟨r, rfl⟩ : ∃ r, l = 45 :: r := by
      cases l with
      | nil => simp at h45
      | cons c r => simp at h45; exact ⟨r, by rw [h45]⟩
    simp only [List.tail_cons] at *
    have h3 : head48 r = false := by
      rcases h3 with h3 | h3
      · exact h3
      · simp at h3
    have hp := dv_pos h1 h2 h3
    unfold Lib.itoa
    rw [if_pos (by omega), show m.natAbs = dv 0 r by omega, dec_uniq _ r rfl h1 h2 (.inl h3)]
    exact ⟨rfl, by omega⟩
  · simp only [if_neg h45] at hm h1 h2 h3 hb
    unfold Lib.itoa
    rw [if_neg (by omega), show m.toNat = dv 0 l by omega, dec_uniq _ l rfl h1 h2 h3]
    exact ⟨rfl, by omega⟩
theorem decR_canR : ∀ (l : List UInt8), decR l = canR l
  | [] => rfl
  | c :: r => by
    have key : ∀ d : List UInt8, d.head? ≠ some 45 → d ≠ [] → (decR d = (digs d && (!head48 d || decide (d = [48])))) := fun d h1 h2 => by
      cases d with
      | nil => exact absurd rfl h2
      | cons c r =>
        have hc : ¬ (c.toNat = 45 ∧ r ≠ []) := fun h => h1 (by rw [List.head?_cons, Option.some.injEq]; exact UInt8.toNat_inj.1 h.1)
        rw [decR, if_neg hc]
        congr 1
        simp only [head48]
        by_cases h48 : c.toNat = 48
        · have : c = 48 := UInt8.toNat_inj.1 h48
          subst this
          simp
        · simp [h48]
    by_cases h45 : c = 45
    · subst h45
      by_cases hr : r = []
      · subst hr; rfl
      · rw [decR, if_pos ⟨rfl, hr⟩]
        simp only [canR, List.head?_cons, if_true, List.tail_cons]
        by_cases hh : r.head? = some 45
        · have : digs r = false := by
            cases hd : digs r with
            | false => rfl
            | true => exact absurd hh (head_digs hd)
          simp [hh, this]
        · rw [key r hh hr]
          have e : ((45 : UInt8) :: r = [48]) = False := by simp
          simp only [hh, decide_false, Bool.not_false, Bool.and_true, hr, e, Bool.or_false]
          by_cases h48 : r = [48]
          · subst h48; simp [head48]
          · simp [h48]
    · rw [key (c :: r) (by simpa using h45) (by simp)]
      simp only [canR, List.head?_cons, Option.some.injEq, if_neg h45]
      simp
theorem parse_dv : ∀ (l : List UInt8) (a : Nat), digs l = true → a < 18446744073709551616 → (dv a l < 18446744073709551616 → Lib.parseUint10 a l = .ok (dv a l)) ∧ (18446744073709551616 ≤ dv a l → Lib.parseUint10 a l = .range)
  | [], a, _, ha => by
    rw [dv_nil]
    exact ⟨fun _ => rfl, fun h => by omega⟩
  | c :: l, a, h, ha => by
    obtain ⟨h1, h2⟩ := (digsC c l).1 h
    rw [dv_cons, Lib.parseUint10, if_pos h1]
    have h3 := dv_le l (10 * a + (c.toNat - 48))
    have e : a * 10 + (c.toNat - 48) = 10 * a + (c.toNat - 48) := by omega
    rw [e]
    by_cases k1 : 1844674407370955162 ≤ a
    · rw [if_pos k1]
      exact ⟨fun h => by omega, fun _ => rfl⟩
    · rw [if_neg k1]
      by_cases k2 : 18446744073709551616 ≤ 10 * a + (c.toNat - 48)
      · rw [if_pos k2]
        exact ⟨fun h => by omega, fun _ => rfl⟩
      · rw [if_neg k2]
        exact parse_dv l _ h2 (by omega)
theorem numV_minus (r : List UInt8) : numV (45 :: r) = if 1099511627776 < dv 0 r then (0, 2) else (-(dv 0 r : Int), 0) := rfl
theorem numV_plain {l : List UInt8} (h : l.head? ≠ some 45) : numV l = if 1099511627776 < dv 0 l then (0, 2) else ((dv 0 l : Int), 0) := by simp only [numV, if_neg h]
/-- What strconv.Atoi makes of a canonical atom. -/
theorem atoi_can {l : List UInt8} (h : canR l = true) : (Lib.atoiAll l = .range ∧ numV l = (0, 2)) ∨ ∃ v, Lib.atoiAll l = .ok v ∧ numV l = (if v < -1099511627776 ∨ 1099511627776 < v then (0, 2) else (v, 0)) := by
  simp only [canR, Bool.and_eq_true, Bool.not_eq_true', decide_eq_false_iff_not, Bool.or_eq_true, decide_eq_true_eq] at h
  obtain ⟨⟨h1, h2⟩, -⟩ := h
  by_cases h45 : l.head? = some 45
  · simp only [if_pos h45] at h1 h2
    obtain ⟨r, rfl⟩ : ∃ r, l = 45 :: r := by
      cases l with
      | nil => simp at h45
      | cons c r => simp at h45; exact ⟨r, by rw [h45]⟩
    simp only [List.tail_cons] at h1 h2
    rw [numV_minus, Lib.atoiAll_minus, Lib.parseMag, if_neg h2]
    obtain ⟨p1, p2⟩ := parse_dv r 0 h1 (by omega)
    by_cases hz : dv 0 r < 18446744073709551616
    · rw [p1 hz]
      simp only [Lib.signed]
      by_cases hw : 9223372036854775808 < dv 0 r
      · rw [if_pos hw, if_pos (by omega)]
        exact .inl ⟨rfl, rfl⟩
      · rw [if_neg hw]
        refine .inr ⟨_, rfl, ?_⟩
        by_cases hv : 1099511627776 < dv 0 r
        · rw [if_pos hv, if_pos (by omega)]
        · rw [if_neg hv, if_neg (by omega)]
    · rw [p2 (by omega), if_pos (show 1099511627776 < _ by omega)]
      exact .inl ⟨rfl, rfl⟩
  · simp only [if_neg h45] at h1 h2
    cases l with
    | nil => exact absurd rfl h2
    | cons c r =>
      have hc := ((digsC c r).1 h1).1
      rw [numV_plain h45, Lib.atoiAll_plain c r (by omega) (by omega), Lib.parseMag, if_neg h2]
      obtain ⟨p1, p2⟩ := parse_dv (c :: r) 0 h1 (by omega)
      by_cases hz : dv 0 (c :: r) < 18446744073709551616
      · rw [p1 hz]
        simp only [Lib.signless]
        by_cases hw : 9223372036854775808 ≤ dv 0 (c :: r)
        · rw [if_pos hw, if_pos (by omega)]
          exact .inl ⟨rfl, rfl⟩
        · rw [if_neg hw]
          refine .inr ⟨_, rfl, ?_⟩
          by_cases hv : 1099511627776 < dv 0 (c :: r)
          · rw [if_pos hv, if_pos (by omega)]
          · rw [if_neg hv, if_neg (by omega)]
      · rw [p2 (by omega), if_pos (show 1099511627776 < _ by omega)]
        exact .inl ⟨rfl, rfl⟩
/-- Number, after a check. -/
def nmB (e : Int) (x : Sx) : Int × Int := if e = 0 then (if x.isList = true then (0, 8) else if canR (bl x.atom) = true then numV (bl x.atom) else (0, 3)) else (0, e)
end Go.Proofs.YtoclmkbjgmgekaaDoor

/-
  Csexp: Read (the reference's), Decode, Int, the checks.
-/
namespace Go.Proofs.YtoclmkbjgmgekaaDoor
set_option linter.unusedVariables false
set_option linter.unusedSimpArgs false
set_option linter.unusedSectionVars false
open Go.RowKit

theorem bif_ndec {p : Prop} [Decidable p] {A B : Prop} : (bif !decide p then A else B) = if p then B else A := by
  by_cases h : p <;> simp [h]
theorem top_pre {s : ByteArray} (q1 : s.size ≤ 2147483648) : readPre (s, 0, 20000, 0, 12, ()) :=
  ⟨⟨Int.le_refl 0, Int.natCast_nonneg _, (by unfold lim; omega : s.size ≤ 2 * lim)⟩, ⟨(by omega : (0 : Int) ≤ 20000), Int.le_refl 20000⟩, rfl, (by omega : (0 : Int) ≤ 12), Int.le_refl 12⟩
def sp33 : Sp := ⟨S33, L33, fun g => topP g.1, fun g => .tu [.ag [.bool (dcT g.1).1.isList, .str (dcT g.1).1.atom, .sl false .sexp (dcT g.1).1.list], .int .i64 (dcT g.1).2], fun _ => none⟩
theorem sp33_ok : sp33.Ok Tryd.prog 33 false :=
  ⟨by
    rintro ⟨s, ⟨⟩⟩ K X q1 h
    have h : K (.tu [.ag [.bool (dcT s).1.isList, .str (dcT s).1.atom, .sl false .sexp (dcT s).1.list], .int .i64 (dcT s).2]) [] := h
    refine FCalls.weak (F33_ok (s, ()) (wkK K) X ⟨q1, ?_⟩)
    unfold dcT at h
    rw [bif_ndec, bif_ndec]
    dsimp only at *
    split at h
    · rename_i h1
      rw [if_pos h1]
      split at h
      · rename_i h2; rw [if_pos h2]; exact wkK_of h
      · rename_i h2; rw [if_neg h2]; exact wkK_nil2 h
    · rename_i h1; rw [if_neg h1]; exact wkK_nil2 h, fun _ _ _ => rfl, fun _ => rfl, fun h => (by cases h)⟩
def sp97 : Sp := ⟨S97, L97, fun g => intP g.1, fun g => .tu [.ag [.bool (intB g.1).1.isList, .str (intB g.1).1.atom, .sl false .sexp (intB g.1).1.list], .int .i64 (intB g.1).2], fun _ => none⟩
theorem sp97_ok : sp97.Ok Tryd.prog 97 false :=
  ⟨by
    rintro ⟨n, ⟨⟩⟩ K X q1 h
    have h : K (.tu [.ag [.bool (intB n).1.isList, .str (intB n).1.atom, .sl false .sexp (intB n).1.list], .int .i64 (intB n).2]) [] := h
    refine FCalls.weak (F97_ok (n, ()) (wkK K) X ?_)
    unfold F97
    dsimp only
    rw [bif_dec]
    unfold intB at h
    by_cases h1 : n < -1099511627776
    · rw [if_pos (.inl h1)] at h
      rw [if_pos h1]
      exact wkK_nil2 h
    · rw [if_neg h1]
      unfold F97_J2
      rw [bif_dec]
      by_cases h2 : 1099511627776 < n
      · rw [if_pos (.inr h2)] at h
        rw [if_pos h2]
        exact wkK_nil2 h
      · rw [if_neg (fun e => e.elim h1 h2)] at h
        rw [if_neg h2]
        exact ⟨q1, wkK_nil2 h⟩, fun _ _ _ => rfl, fun _ => rfl, fun h => (by cases h)⟩
def bkP (g : prodL [.bool, .str, .sl .sexp]) : Prop := bkS ⟨g.1, g.2.1, g.2.2.1⟩ ≤ lim
def sp73 : Sp := ⟨S73, L73, bkP, fun g => .int .i64 (ckG ⟨g.1, g.2.1, g.2.2.1⟩), fun _ => none⟩
theorem sp73_ok : sp73.Ok Tryd.prog 73 true :=
  ⟨by
    rintro ⟨b, a, l, ⟨⟩⟩ K X q1 h
    have h : K (.int .i64 (ckG ⟨b, a, l⟩)) [] := h
    have q1 : bkS ⟨b, a, l⟩ ≤ lim := q1
    refine F73_ok (b, a, l, ()) K X ⟨?_, ?_⟩
    · have hn := nodes_bk ⟨b, a, l⟩
      have q2 := q1
      rw [lim_eq] at q2
      exact ⟨q1, ⟨Int.le_refl 0, (by omega : (0 : Int) + (nodesS ⟨b, a, l⟩ : Int) ≤ 1099511627776)⟩, (by omega : (0 : Int) ≤ 1), (by omega : (1 : Int) + (nodesS ⟨b, a, l⟩ : Int) ≤ 1099511627776)⟩
    · unfold ckG at h
      dsimp only
      cases hm : (madd ⟨b, a, l⟩ 0 false 1).2 with
      | true => rw [hm] at h; exact h
      | false => rw [hm] at h; exact ⟨q1, h⟩, fun _ _ _ => rfl, fun _ => rfl, fun _ _ => ⟨rfl, rfl⟩⟩
def sp44 : Sp := ⟨S44, L44, bkP, fun g => .int .i64 (ckN ⟨g.1, g.2.1, g.2.2.1⟩), fun _ => none⟩
theorem sp44_ok : sp44.Ok Tryd.prog 44 true :=
  ⟨by
    rintro ⟨b, a, l, ⟨⟩⟩ K X q1 h
    have h : K (.int .i64 (ckN ⟨b, a, l⟩)) [] := h
    have q1 : bkS ⟨b, a, l⟩ ≤ lim := q1
    refine F44_ok (b, a, l, ()) K X ⟨?_, ?_⟩
    · exact ⟨q1, ⟨(by omega : (0 : Int) ≤ 20000), (by omega : (20000 : Int) ≤ 1099511627776)⟩, (by omega : (0 : Int) ≤ 12), (by omega : (12 : Int) ≤ 1099511627776)⟩
    · unfold ckN at h
      dsimp only
      rw [bif_dec]
      split at h
      · rename_i h1; rw [if_pos h1]; exact h
      · rename_i h1; rw [if_neg h1]; exact ⟨q1, h⟩, fun _ _ _ => rfl, fun _ => rfl, fun _ _ => ⟨rfl, rfl⟩⟩
end Go.Proofs.YtoclmkbjgmgekaaDoor

/- What functions come to: printed by exf.py. -/
namespace Go.Proofs.YtoclmkbjgmgekaaDoor
set_option linter.unusedVariables false
set_option linter.unusedSimpArgs false
set_option linter.unusedSectionVars false
open Go.RowKit
attribute [local irreducible] dfun dround
/-- quilt/csexp.Number -/
def H91 : List (Nat × Hint) := []
def J91 : List (Nat × Hint) := []
abbrev S91 : List Sh := [.ag [.leaf, .leaf, .leaf]]
abbrev L91 : List Lf := [.bool, .str, .sl .sexp]
def F91 (g : prodL L91) (K : Kn) : Prop :=
  sp73.pre (g.1, g.2.1, g.2.2.1, ()) ∧
  bif !decide (ckG ⟨g.1, g.2.1, g.2.2.1⟩ = 0) then (
    K (.tu [.int .i64 0, .int .i64 (ckG ⟨g.1, g.2.1, g.2.2.1⟩)]) [])
  else (
    bif g.1 then (
    K (.tu [.int .i64 0, .int .i64 8]) [])
  else (
    sp101.pre (g.2.1, ()) ∧
    bif !(canR (bl g.2.1)) then (
      K (.tu [.int .i64 0, .int .i64 3]) [])
    else (
      atoiPre (g.2.1, ()) ∧
  Res.go (atoiR g.2.1) (fun a1 =>
  bif decide (a1 < (-1099511627776)) then (
    K (.tu [.int .i64 0, .int .i64 2]) [])
  else (
    bif decide (1099511627776 < a1) then (
    K (.tu [.int .i64 0, .int .i64 2]) [])
  else (
    K (.tu [.int .i64 a1, .int .i64 0]) []))) (fun e2 =>
  K (.tu [.int .i64 0, .int .i64 2]) []))))
/-- quilt/quiltref01.Decimal -/
def H85 : List (Nat × Hint) := []
def J85 : List (Nat × Hint) := []
abbrev S85 : List Sh := [.leaf]
abbrev L85 : List Lf := [.int .i64]
def spz85 (Z : prodL L85 → Prop) : Sp := ⟨S85, L85, Z, fun g => .str (decB g.1), fun _ => none⟩
def F85 (Z : prodL L85 → Prop) (g : prodL L85) (K : Kn) : Prop :=
  bif decide (g.1 < 0) then (
    bif decide (g.1 < (-9223372036854775807)) then (
      K (.str (⟨#[45, 57, 50, 50, 51, 51, 55, 50, 48, 51, 54, 56, 53, 52, 55, 55, 53, 56, 48, 56]⟩ : ByteArray)) [])
    else (
      Z (IntKind.i64.wrap (0 - g.1), ()) ∧
    Room ((⟨#[45]⟩ : ByteArray).size + (decB (IntKind.i64.wrap (0 - g.1))).size) 1 (
    K (.str ((⟨#[45]⟩ : ByteArray) ++ (decB (IntKind.i64.wrap (0 - g.1))))) [])))
  else (
    bif decide (g.1 < 10) then (
    K (.str (bStr [(IntKind.u8.wrap (IntKind.i64.wrap (48 + g.1)))])) [])
  else (
    ¬ 10 = (0 : Int) ∧
  Z (IntKind.i64.wrap (Int.tdiv g.1 10), ()) ∧
  ¬ 10 = (0 : Int) ∧
  Room ((decB (IntKind.i64.wrap (Int.tdiv g.1 10))).size + (bStr [(IntKind.u8.wrap (IntKind.i64.wrap (48 + (Int.tmod g.1 10))))]).size) 1 (
  K (.str ((decB (IntKind.i64.wrap (Int.tdiv g.1 10))) ++ (bStr [(IntKind.u8.wrap (IntKind.i64.wrap (48 + (Int.tmod g.1 10))))]))) [])))
theorem F85_eq (Z : prodL L85 → Prop) (g : prodL L85) (K X : Kn) : F85 Z g K = dfun D (gamX [] [(85, true, spz85 Z)]) (isRaw []) H85 J85 28 [.tmp 2] (codeOf Tryd.f85) (argsT S85 L85 g) [] (settle0 K) X := by kernel_rfl
theorem F85_ok (Z : prodL L85 → Prop) (hZ : (spz85 Z).Ok Tryd.prog 85 true) (g : prodL L85) (K X : Kn) (h : F85 Z g K) : FCalls Tryd.prog 85 (argsT S85 L85 g) [] K X :=
  FCalls.settle0 (dfun_sound (Γ := gamX [] [(85, true, spz85 Z)]) (mu := isRaw []) (H := H85) (J := J85) D_ok (gamX_ok (rs := []) (l := [(85, true, spz85 Z)]) (fun p hp => by cases hp) (by intro p hp; simp only [List.mem_cons, List.not_mem_nil, or_false] at hp; subst hp; exact hZ)) gamX_det rfl Tryd.func85 (c := codeOf Tryd.f85) rfl Tryd.ntmps85 (rs := [.tmp 2]) Tryd.results85 (by unfold enters; rw [Tryd.func85]; kernel_rfl) (Nat.le_of_ble_eq_true (by kernel_rfl)) (X := X) (c0 := 0) (Eq.mp (F85_eq Z g K X) h))
end Go.Proofs.YtoclmkbjgmgekaaDoor

/-
  Csexp: Decode (the reference's), Number, Decimal.
-/
namespace Go.Proofs.YtoclmkbjgmgekaaDoor
set_option linter.unusedVariables false
set_option linter.unusedSimpArgs false
set_option linter.unusedSectionVars false
open Go.RowKit

theorem rdT_le (s : ByteArray) : (rdT s).2.1 ≤ (s.size : Int) := by
  unfold rdT
  split
  · dsimp only; omega
  · dsimp only; omega
def nmG (x : Sx) : Int × Int := nmB (ckG x) x
def nmN (x : Sx) : Int × Int := nmB (ckN x) x
def sp91 : Sp := ⟨S91, L91, bkP, fun g => .tu [.int .i64 (nmG ⟨g.1, g.2.1, g.2.2.1⟩).1, .int .i64 (nmG ⟨g.1, g.2.1, g.2.2.1⟩).2], fun _ => none⟩
def finK (K : Kn) (m : Nat) (sg : Int) (r : List UInt8) : Prop := if 1099511627776 < dv m r then K (.tu [.int .i64 0, .int .i64 2]) [] else K (.tu [.int .i64 (sg * (dv m r : Int)), .int .i64 0]) []
theorem fin_num {K : Kn} {l : List UInt8} (hc : canR l = true) (h : K (.tu [.int .i64 (numV l).1, .int .i64 (numV l).2]) []) : (digs l = true ∧ finK K 0 1 l) ∨ ∃ r, l = 45 :: r ∧ digs r = true ∧ finK K 0 (-1) r := by
  simp only [canR, Bool.and_eq_true, Bool.not_eq_true', decide_eq_false_iff_not, Bool.or_eq_true, decide_eq_true_eq] at hc
  obtain ⟨⟨h1, h2⟩, -⟩ := hc
  by_cases h45 : l.head? = some 45
  · simp only [if_pos h45] at h1 h2
    obtain ⟨r, rfl⟩ : ∃ r, l = 45 :: r := by
      cases l with
      | nil => simp at h45
      | cons c r => simp at h45; exact ⟨r, by rw [h45]⟩
    rw [numV_minus] at h
    refine .inr ⟨r, rfl, h1, ?_⟩
    unfold finK
    split at h
    · rename_i k; rw [if_pos k]; exact h
    · rename_i k; rw [if_neg k, Int.neg_mul, Int.one_mul]; exact h
  · simp only [if_neg h45] at h1 h2
    rw [numV_plain h45] at h
    refine .inl ⟨h1, ?_⟩
    unfold finK
    split at h
    · rename_i k; rw [if_pos k]; exact h
    · rename_i k; rw [if_neg k, Int.one_mul]; exact h
end Go.Proofs.YtoclmkbjgmgekaaDoor
