/-
  Csexp: what Go's library yields: Itoa, Atoi.
-/
import Derived.Test.YtpbkhdeehlikfaaDoorCG
import Derived.Shelf.Strconv.Itoa3
import Derived.Shelf.Strconv.AtoiAll
import Derived.Ground.NamesProg
namespace Go.Proofs.YtpbkhdeehlikfaaDoor
set_option linter.unusedVariables false
set_option linter.unusedSimpArgs false
set_option linter.unusedSectionVars false
open Go.RowKit Go.Shelf
/- Laid by the kit's tool lay-plain.mjs. -/
def laysItoa_ren : Go.Shelf.Ren := ⟨fun | 171 => 31 | 243 => 45 | 246 => 51 | 283 => 59 | 284 => 60 | 285 => 61 | 286 => 62 | 129 => 69 | 317 => 68 | 318 => 70 | 319 => 71 | 320 => 72 | 337 => 75 | 338 => 76 | n => n, fun | 3 => 3 | 9 => 9 | 2 => 2 | 4 => 4 | 171 => 89 | 0 => 0 | 53 => 90 | 37 => 68 | 5 => 5 | 173 => 93 | 212 => 107 | 51 => 108 | 20 => 20 | 213 => 109 | 46 => 98 | 232 => 117 | 233 => 118 | n => n, fun | 17 => 2 | 18 => 3 | 19 => 4 | n => n⟩
theorem laysItoa : Go.Proofs.LaysM.n171 Tryd.prog laysItoa_ren := {
  mixed := by kernel_rfl
  f129 := Tryd.func69.trans (congrArg some (by kernel_rfl))
  f171 := Tryd.func31.trans (congrArg some (by kernel_rfl))
  f243 := Tryd.func45.trans (congrArg some (by kernel_rfl))
  f246 := Tryd.func51.trans (congrArg some (by kernel_rfl))
  f283 := Tryd.func59.trans (congrArg some (by kernel_rfl))
  f284 := Tryd.func60.trans (congrArg some (by kernel_rfl))
  f285 := Tryd.func61.trans (congrArg some (by kernel_rfl))
  f286 := Tryd.func62.trans (congrArg some (by kernel_rfl))
  f317 := Tryd.func68.trans (congrArg some (by kernel_rfl))
  f318 := Tryd.func70.trans (congrArg some (by kernel_rfl))
  f319 := Tryd.func71.trans (congrArg some (by kernel_rfl))
  f320 := Tryd.func72.trans (congrArg some (by kernel_rfl))
  f337 := Tryd.func75.trans (congrArg some (by kernel_rfl))
  f338 := Tryd.func76.trans (congrArg some (by kernel_rfl))
  t0 := Tryd.underlying0
  a0 := Tryd.isAgg0
  z0 := Tryd.sizeOf0
  v0 := Tryd.zeroValue0
  t2 := Tryd.underlying2
  a2 := Tryd.isAgg2
  z2 := Tryd.sizeOf2
  v2 := Tryd.zeroValue2
  t3 := Tryd.underlying3
  a3 := Tryd.isAgg3
  z3 := Tryd.sizeOf3
  v3 := Tryd.zeroValue3
  t4 := Tryd.underlying4
  a4 := Tryd.isAgg4
  z4 := Tryd.sizeOf4
  v4 := Tryd.zeroValue4
  t5 := Tryd.underlying5
  a5 := Tryd.isAgg5
  z5 := Tryd.sizeOf5
  v5 := Tryd.zeroValue5
  t9 := Tryd.underlying9
  a9 := Tryd.isAgg9
  z9 := Tryd.sizeOf9
  v9 := Tryd.zeroValue9
  t20 := Tryd.underlying20
  a20 := Tryd.isAgg20
  z20 := Tryd.sizeOf20
  v20 := Tryd.zeroValue20
  t37 := Tryd.underlying68
  a37 := Tryd.isAgg68
  z37 := Tryd.sizeOf68
  v37 := Tryd.zeroValue68
  t46 := Tryd.underlying98
  a46 := Tryd.isAgg98
  z46 := Tryd.sizeOf98
  v46 := Tryd.zeroValue98
  t51 := Tryd.underlying108
  a51 := Tryd.isAgg108
  z51 := Tryd.sizeOf108
  v51 := Tryd.zeroValue108
  t53 := Tryd.underlying90
  a53 := Tryd.isAgg90
  z53 := Tryd.sizeOf90
  v53 := Tryd.zeroValue90
  t171 := Tryd.underlying89
  a171 := Tryd.isAgg89
  z171 := Tryd.sizeOf89
  v171 := Tryd.zeroValue89
  t173 := Tryd.underlying93
  a173 := Tryd.isAgg93
  z173 := Tryd.sizeOf93
  v173 := Tryd.zeroValue93
  t212 := Tryd.underlying107
  a212 := Tryd.isAgg107
  z212 := Tryd.sizeOf107
  v212 := Tryd.zeroValue107
  t213 := Tryd.underlying109
  a213 := Tryd.isAgg109
  z213 := Tryd.sizeOf109
  t232 := Tryd.underlying117
  a232 := Tryd.isAgg117
  z232 := Tryd.sizeOf117
  v232 := Tryd.zeroValue117
  t233 := Tryd.underlying118
  a233 := Tryd.isAgg118
  z233 := Tryd.sizeOf118
  v233 := Tryd.zeroValue118
  g17 := by kernel_rfl
  g18 := by kernel_rfl
  g19 := by kernel_rfl
  i0 := by kernel_rfl
  i2 := by kernel_rfl
  i3 := by kernel_rfl
  i4 := by kernel_rfl
  i5 := by kernel_rfl
  i9 := by kernel_rfl
  i20 := by kernel_rfl
  i37 := by kernel_rfl
  i46 := by kernel_rfl
  i51 := by kernel_rfl
  i53 := by kernel_rfl
  i171 := by kernel_rfl
  i173 := by kernel_rfl
  i212 := by kernel_rfl
  i232 := by kernel_rfl
  i233 := by kernel_rfl
  m17 := by kernel_rfl
  m18 := by kernel_rfl
  m19 := by kernel_rfl }
def laysAtoi_ren : Go.Shelf.Ren := ⟨fun | 172 => 34 | 244 => 47 | 245 => 48 | 247 => 53 | 279 => 54 | 280 => 55 | 281 => 56 | 282 => 57 | 287 => 64 | 316 => 65 | 171 => 31 | 205 => 66 | 321 => 73 | 322 => 74 | 243 => 45 | 246 => 51 | 283 => 59 | 284 => 60 | 285 => 61 | 286 => 62 | 129 => 69 | 317 => 68 | 318 => 70 | 319 => 71 | 320 => 72 | 337 => 75 | 338 => 76 | n => n, fun | 9 => 9 | 3 => 3 | 75 => 60 | 76 => 61 | 4 => 4 | 5 => 5 | 167 => 83 | 37 => 68 | 0 => 0 | 85 => 84 | 2 => 2 | 168 => 86 | 53 => 90 | 175 => 96 | 46 => 98 | 210 => 101 | 127 => 81 | 145 => 115 | 143 => 113 | 21 => 21 | 171 => 89 | 173 => 93 | 212 => 107 | 51 => 108 | 20 => 20 | 213 => 109 | 232 => 117 | 233 => 118 | 80 => 72 | n => n, fun | 15 => 0 | 16 => 1 | 17 => 2 | 18 => 3 | 19 => 4 | n => n⟩
theorem laysAtoi : Go.Proofs.LaysC.n172 Tryd.prog laysAtoi_ren := {
  mixed := by kernel_rfl
  f129 := Tryd.func69.trans (congrArg some (by kernel_rfl))
  f171 := Tryd.func31.trans (congrArg some (by kernel_rfl))
  f172 := Tryd.func34.trans (congrArg some (by kernel_rfl))
  f205 := Tryd.func66.trans (congrArg some (by kernel_rfl))
  f243 := Tryd.func45.trans (congrArg some (by kernel_rfl))
  f244 := Tryd.func47.trans (congrArg some (by kernel_rfl))
  f245 := Tryd.func48.trans (congrArg some (by kernel_rfl))
  f246 := Tryd.func51.trans (congrArg some (by kernel_rfl))
  f247 := Tryd.func53.trans (congrArg some (by kernel_rfl))
  f279 := Tryd.func54.trans (congrArg some (by kernel_rfl))
  f280 := Tryd.func55.trans (congrArg some (by kernel_rfl))
  f281 := Tryd.func56.trans (congrArg some (by kernel_rfl))
  f282 := Tryd.func57.trans (congrArg some (by kernel_rfl))
  f283 := Tryd.func59.trans (congrArg some (by kernel_rfl))
  f284 := Tryd.func60.trans (congrArg some (by kernel_rfl))
  f285 := Tryd.func61.trans (congrArg some (by kernel_rfl))
  f286 := Tryd.func62.trans (congrArg some (by kernel_rfl))
  f287 := Tryd.func64.trans (congrArg some (by kernel_rfl))
  f316 := Tryd.func65.trans (congrArg some (by kernel_rfl))
  f317 := Tryd.func68.trans (congrArg some (by kernel_rfl))
  f318 := Tryd.func70.trans (congrArg some (by kernel_rfl))
  f319 := Tryd.func71.trans (congrArg some (by kernel_rfl))
  f320 := Tryd.func72.trans (congrArg some (by kernel_rfl))
  f321 := Tryd.func73.trans (congrArg some (by kernel_rfl))
  f322 := Tryd.func74.trans (congrArg some (by kernel_rfl))
  f337 := Tryd.func75.trans (congrArg some (by kernel_rfl))
  f338 := Tryd.func76.trans (congrArg some (by kernel_rfl))
  t0 := Tryd.underlying0
  a0 := Tryd.isAgg0
  z0 := Tryd.sizeOf0
  v0 := Tryd.zeroValue0
  t2 := Tryd.underlying2
  a2 := Tryd.isAgg2
  z2 := Tryd.sizeOf2
  v2 := Tryd.zeroValue2
  t3 := Tryd.underlying3
  a3 := Tryd.isAgg3
  z3 := Tryd.sizeOf3
  v3 := Tryd.zeroValue3
  t4 := Tryd.underlying4
  a4 := Tryd.isAgg4
  z4 := Tryd.sizeOf4
  v4 := Tryd.zeroValue4
  t5 := Tryd.underlying5
  a5 := Tryd.isAgg5
  z5 := Tryd.sizeOf5
  v5 := Tryd.zeroValue5
  t9 := Tryd.underlying9
  a9 := Tryd.isAgg9
  z9 := Tryd.sizeOf9
  v9 := Tryd.zeroValue9
  t20 := Tryd.underlying20
  a20 := Tryd.isAgg20
  z20 := Tryd.sizeOf20
  v20 := Tryd.zeroValue20
  t21 := Tryd.underlying21
  a21 := Tryd.isAgg21
  z21 := Tryd.sizeOf21
  v21 := Tryd.zeroValue21
  t37 := Tryd.underlying68
  a37 := Tryd.isAgg68
  z37 := Tryd.sizeOf68
  v37 := Tryd.zeroValue68
  t46 := Tryd.underlying98
  a46 := Tryd.isAgg98
  z46 := Tryd.sizeOf98
  v46 := Tryd.zeroValue98
  t51 := Tryd.underlying108
  a51 := Tryd.isAgg108
  z51 := Tryd.sizeOf108
  v51 := Tryd.zeroValue108
  t53 := Tryd.underlying90
  a53 := Tryd.isAgg90
  z53 := Tryd.sizeOf90
  v53 := Tryd.zeroValue90
  t75 := Tryd.underlying60
  a75 := Tryd.isAgg60
  z75 := Tryd.sizeOf60
  v75 := Tryd.zeroValue60
  t76 := Tryd.underlying61
  a76 := Tryd.isAgg61
  z76 := Tryd.sizeOf61
  v76 := Tryd.zeroValue61
  t85 := Tryd.underlying84
  a85 := Tryd.isAgg84
  z85 := Tryd.sizeOf84
  v85 := Tryd.zeroValue84
  t127 := Tryd.underlying81
  a127 := Tryd.isAgg81
  z127 := Tryd.sizeOf81
  v127 := Tryd.zeroValue81
  t143 := Tryd.underlying113
  a143 := Tryd.isAgg113
  z143 := Tryd.sizeOf113
  v143 := Tryd.zeroValue113
  t145 := Tryd.underlying115
  a145 := Tryd.isAgg115
  z145 := Tryd.sizeOf115
  v145 := Tryd.zeroValue115
  t167 := Tryd.underlying83
  a167 := Tryd.isAgg83
  z167 := Tryd.sizeOf83
  v167 := Tryd.zeroValue83
  t168 := Tryd.underlying86
  a168 := Tryd.isAgg86
  z168 := Tryd.sizeOf86
  v168 := Tryd.zeroValue86
  t171 := Tryd.underlying89
  a171 := Tryd.isAgg89
  z171 := Tryd.sizeOf89
  v171 := Tryd.zeroValue89
  t173 := Tryd.underlying93
  a173 := Tryd.isAgg93
  z173 := Tryd.sizeOf93
  v173 := Tryd.zeroValue93
  t175 := Tryd.underlying96
  a175 := Tryd.isAgg96
  z175 := Tryd.sizeOf96
  v175 := Tryd.zeroValue96
  t210 := Tryd.underlying101
  a210 := Tryd.isAgg101
  z210 := Tryd.sizeOf101
  v210 := Tryd.zeroValue101
  t212 := Tryd.underlying107
  a212 := Tryd.isAgg107
  z212 := Tryd.sizeOf107
  v212 := Tryd.zeroValue107
  t213 := Tryd.underlying109
  a213 := Tryd.isAgg109
  z213 := Tryd.sizeOf109
  t232 := Tryd.underlying117
  a232 := Tryd.isAgg117
  z232 := Tryd.sizeOf117
  v232 := Tryd.zeroValue117
  t233 := Tryd.underlying118
  a233 := Tryd.isAgg118
  z233 := Tryd.sizeOf118
  v233 := Tryd.zeroValue118
  g15 := by kernel_rfl
  g16 := by kernel_rfl
  g17 := by kernel_rfl
  g18 := by kernel_rfl
  g19 := by kernel_rfl
  t80 := Tryd.underlying72
  a80 := Tryd.isAgg72
  z80 := Tryd.sizeOf72
  v80 := Tryd.zeroValue72
  i0 := by kernel_rfl
  i2 := by kernel_rfl
  i3 := by kernel_rfl
  i4 := by kernel_rfl
  i5 := by kernel_rfl
  i9 := by kernel_rfl
  i20 := by kernel_rfl
  i21 := by kernel_rfl
  i37 := by kernel_rfl
  i46 := by kernel_rfl
  i51 := by kernel_rfl
  i53 := by kernel_rfl
  i75 := by kernel_rfl
  i76 := by kernel_rfl
  i80 := by kernel_rfl
  i85 := by kernel_rfl
  i127 := by kernel_rfl
  i143 := by kernel_rfl
  i145 := by kernel_rfl
  i167 := by kernel_rfl
  i168 := by kernel_rfl
  i171 := by kernel_rfl
  i173 := by kernel_rfl
  i175 := by kernel_rfl
  i210 := by kernel_rfl
  i212 := by kernel_rfl
  i232 := by kernel_rfl
  i233 := by kernel_rfl
  m15 := by kernel_rfl
  m16 := by kernel_rfl
  m17 := by kernel_rfl
  m18 := by kernel_rfl
  m19 := by kernel_rfl
  c0 := by kernel_rfl
  c2 := by kernel_rfl
  c3 := by kernel_rfl
  c4 := by kernel_rfl
  c5 := by kernel_rfl
  c9 := by kernel_rfl
  c20 := by kernel_rfl
  c21 := by kernel_rfl
  c37 := by kernel_rfl
  c46 := by kernel_rfl
  c51 := by kernel_rfl
  c53 := by kernel_rfl
  c75 := by kernel_rfl
  c76 := by kernel_rfl
  c80 := by kernel_rfl
  c85 := by kernel_rfl
  c127 := by kernel_rfl
  c143 := by kernel_rfl
  c145 := by kernel_rfl
  c167 := by kernel_rfl
  c168 := by kernel_rfl
  c171 := by kernel_rfl
  c173 := by kernel_rfl
  c175 := by kernel_rfl
  c210 := by kernel_rfl
  c212 := by kernel_rfl
  c213 := by kernel_rfl
  c232 := by kernel_rfl
  c233 := by kernel_rfl }

/-- New blocks behind the heap turn nothing. -/
theorem good_ext {P : Program} {g : G P} {st : St} {w w' : World} (hg : Good g st w) (h1 : w'.os = w.os) (h2 : w'.tape = w.tape) (h3 : w'.output = w.output) (hsz : w.heap.size ≤ w'.heap.size) (hb : ∀ b, b < w.heap.size → w'.heap[b]? = w.heap[b]?) :
    Good g st w' ∧ ∀ b0, Step b0 g st w g st w' := by
  refine ⟨⟨fun b cs h => ?_, fun k o h => ?_, hg.inj, hg.old, fun b o h => hg.fx_keep (fun b hb' _ => hb b hb') h, fun b h => hg.dm_keep (fun b hb' _ => hb b hb') h, hg.laid⟩, fun b0 => ⟨h1, h2, h3, hsz, fun b hb' _ => hb b hb', fun _ _ h => h, fun _ h => .inl h, fun _ _ h => .inl h, fun _ _ => Kept.refl, fun _ _ => Fixd.refl, fun _ _ h => h, fun _ h => h, fun _ h => .inl h⟩⟩
  · obtain ⟨blk, E, fr, p1, p2⟩ := hg.ro b cs h
    exact ⟨blk, E, fr, by rw [hb b (hg.lt_ro h)]; exact p1, p2⟩
  · obtain ⟨oi, p1, p2, p3⟩ := hg.obj k o h
    refine ⟨oi, p1, p2, ?_⟩
    rcases p3 with p3 | ⟨p3, blk, E, fr, p4, p5, p6, p7⟩
    · exact .inl p3
    · exact .inr ⟨p3, blk, E, fr, by rw [hb _ (Array.getElem?_eq_some_iff.1 p4).1]; exact p4, p5, p6, p7⟩
theorem good_below {P : Program} {g : G P} {st : St} {w w' : World} (hg : Good g st w) (h : Below w.heap.size w w') : Good g st w' ∧ ∀ b0, Step b0 g st w g st w' :=
  good_ext hg h.os h.tape h.output h.size h.block
theorem tab_is {g : G Tryd.prog} {st : St} {w : World} (hg : Good g st w) : Lib.TabIs Tryd.prog w "internal/strconv.uint64pow10" .u64 Lib.pow10Tab := by
  obtain ⟨⟨h1, h2⟩, _⟩ := hg.laid
  obtain ⟨blk, E, fr, p1, p2⟩ := hg.ro _ _ h1
  obtain ⟨blk', E', fr', q1, q2⟩ := hg.ro _ _ h2
  rw [p1] at q1
  simp only [Option.some.injEq, Obj.cells.injEq] at q1
  obtain ⟨rfl, rfl, rfl⟩ := q1
  have hsz : blk.size = 20 := q2.ex 20 rfl
  unfold Lib.TabIs World.var?
  rw [show Tryd.prog.globalNamed "internal/strconv.uint64pow10" = some 2 by kernel_rfl]
  simp only [Option.bind_some, p1, Option.some.injEq]
  apply Array.ext_getElem?
  intro j
  by_cases hj : j < 20
  · obtain ⟨x, x1, _, x3⟩ := p2.at_ j (T.int .u64 ((10 ^ j : Nat) : Int)) (by simp [pow10s, hj]) rfl
    cases x3
    rw [x1]
    simp [Lib.pow10Tab, hj]
  · rw [Array.getElem?_eq_none (by omega), Array.getElem?_eq_none (by simp [Lib.pow10Tab]; omega)]
theorem rl_one {P : Program} {g : G P} {u : T} {args : Array Value} (h : RL g [u] args) : ∃ x, args = #[x] ∧ R g u x := by
  have hl := h.len
  obtain ⟨x, rfl⟩ : ∃ x, args = #[x] := by
    have : args.size = 1 := by simpa using hl.symm
    exact ⟨args[0], Array.ext (by simpa using this) fun i h1 h2 => by
      have : i = 0 := by simp at h2; omega
      subst this; rfl⟩
  exact ⟨x, rfl, h.val 0 u x rfl rfl⟩
def intP (n : Int) : Prop := -9223372036854775808 ≤ n ∧ n ≤ 9223372036854775807
def sp31 : Sp := ⟨[.leaf], [.int .i64], fun g => intP g.1, fun g => .str (decB g.1), fun _ => none⟩
theorem sp31_ok : sp31.Ok Tryd.prog 31 true :=
  ⟨by
    rintro ⟨n, ⟨⟩⟩ K X hp hK g w hg
    obtain ⟨h1, h2⟩ : -9223372036854775808 ≤ n ∧ n ≤ 9223372036854775807 := hp
    refine Atc.of (by kernel_rfl) fun args hr => ?_
    obtain ⟨x, rfl, hx⟩ := rl_one hr
    cases hx
    refine (Any.strconv_Itoa laysItoa n h1 h2 w (tab_is hg)).mono ?_
    rintro e w' ⟨rfl, k, os, rfl⟩
    obtain ⟨q1, q2⟩ := good_ext (w' := Sort.grow (w.drewN k) os) hg rfl rfl rfl (by simp [Sort.grow, World.drewN]) (fun b hb => by simp [Sort.grow, World.drewN, Array.getElem?_append_left hb])
    exact ⟨g, [], q1, q2 _, _, hK, .str _⟩, fun _ _ _ => rfl, fun _ => rfl, fun _ _ => ⟨rfl, rfl⟩⟩
/-- strconv.Atoi. -/
def atoiR (s : ByteArray) : Res Int Int := match Lib.atoiAll (bl s) with
  | .ok v => .ok v
  | .range => .err (Lib.atoiSat (bl s))
  | _ => .err 0
def atoiPre (g : prodL [.str]) : Prop := g.1.size ≤ 2147483648 ∧ ((∃ v, Lib.atoiAll (bl g.1) = .ok v) ∨ Lib.atoiAll (bl g.1) = .range)
def atoiF (g : prodL [.str]) (K _ : Kn) : Prop :=
  Res.go (atoiR g.1) (fun v => K (.tu [.int .i64 v, .cst .nilIface]) []) (fun v => K (.tu [.int .i64 v, .ic 86 .undef]) [])
def rw34 : Raw := ⟨[.leaf], [], [.str], 0, fun g K X => atoiPre g ∧ atoiF g K X⟩
theorem rw34_ok : rw34.Ok Tryd.prog 34 := by
  rintro ⟨s, ⟨⟩⟩ K X ⟨⟨h1, h2⟩, h⟩ g w hg
  have h1 : s.size ≤ 2147483648 := h1
  refine Atc.of (by kernel_rfl) fun args hr => ?_
  obtain ⟨x, rfl, hx⟩ := rl_one hr
  cases hx
  have h : Res.go (atoiR s) (fun v => K (.tu [.int .i64 v, .cst .nilIface]) []) (fun v => K (.tu [.int .i64 v, .ic 86 .undef]) []) := h
  have h2 : (∃ v, Lib.atoiAll (bl s) = .ok v) ∨ Lib.atoiAll (bl s) = .range := h2
  unfold atoiR at h
  rcases h2 with ⟨v, ha⟩ | ha
  · rw [ha] at h
    refine (Any.strconv_Atoi_ok laysAtoi s (by omega) v ha w).mono ?_
    rintro e w' ⟨rfl, hw⟩
    have hb : Below w.heap.size w w' := by
      rcases hw with rfl | ⟨t, rfl⟩
      · exact Below.refl _ _
      · exact Lib.bytesWorld_below _ _ _
    obtain ⟨q1, q2⟩ := good_below hg hb
    refine ⟨g, _, q1, q2 _, _, h, .tu _ _ rfl fun i c x hc hx => ?_⟩
    rcases i with _ | _ | i
    · simp at hc hx; subst hc; subst hx; exact .int _ _
    · simp at hc hx; subst hc; subst hx; exact .cst _
    · simp at hc
  · rw [ha] at h
    obtain ⟨_, te, pe, h4⟩ := hg.laid
    obtain ⟨blk, E, fr, p1, p2⟩ := hg.ro _ _ h4
    obtain ⟨ev, x1, _, x3⟩ := p2.at_ 0 _ rfl rfl
    cases x3
    refine (Any.strconv_Atoi_range laysAtoi s (by omega) ha (.iface te pe) w (by
      show w.cell? ⟨1, 0, none⟩ = _
      simp [World.cell?, p1, x1]) (.inr ⟨te, pe, rfl⟩)).mono ?_
    rintro e w' ⟨N, rfl, _, _, hb⟩
    obtain ⟨q1, q2⟩ := good_below hg hb
    refine ⟨g, _, q1, q2 _, _, h, .tu _ _ rfl fun i c x hc hx => ?_⟩
    rcases i with _ | _ | i
    · simp at hc hx; subst hc; subst hx; exact .int _ _
    · simp at hc hx; subst hc; subst hx; exact .ic _ _ _ (.undef _)
    · simp at hc
end Go.Proofs.YtpbkhdeehlikfaaDoor
