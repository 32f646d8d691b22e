import Derived.Test.YtoclmkbjgmgekaaDoorA2
import Derived.MapKept
/-
  The machine over typed values, 9: literals, append. No program in sight.
-/
namespace Go.Proofs.YtoclmkbjgmgekaaDoor
set_option linter.unusedVariables false
set_option linter.unusedSimpArgs false
set_option linter.unusedSectionVars false
open Go.RowKit
variable {P : Program} [Bd P]

section
variable {P : Program} [Bd P] {D : TD} {g : G P} {st : St} {w : World} {n : Nat} {t : Tm} {a : Act} {o : Oper} {K X : Kn}

/-! ### Literals -/
theorem fill_ok {place : Nat → Option (Nat × Nat)} (ht : RelT g n t a) : ∀ (ps : List (Nat × Operand)) (cs cs' : List T) (xs : Array Value), R g (.ag cs) (.agg xs) → fillT place cs (ps.map fun p => (p.1, ev t p.2)) = some cs' →
    ∃ xs', Instr.fill place xs (ps.map fun p => (p.1, a.eval p.2)) = some xs' ∧ R g (.ag cs') (.agg xs') ∧ cs'.length = cs.length
  | [], cs, cs', xs, hR, h => by simp [fillT] at h; subst h; exact ⟨xs, rfl, hR, rfl⟩
  | (i, x) :: r, cs, cs', xs, hR, h => by
    simp only [List.map_cons, fillT] at h
    cases h1 : place i with
    | none => simp [h1] at h
    | some p =>
      obtain ⟨off, size⟩ := p
      cases h2 : cellsOf (ev t x) with
      | none => simp [h1, h2] at h
      | some zs =>
        simp only [h1, h2] at h
        split at h
        case h_2 => cases h
        rename_i hc
        have hc := of_decide_eq_true hc
        obtain ⟨k1, k2⟩ := R_cells (ht.ev x) h2
        cases hR with
        | ag _ _ r1 r2 r3 =>
          obtain ⟨f1, f2⟩ := foldl_arr off (a.eval x).cells xs (by omega)
          have hR' : R g (.ag (splice cs off zs)) (.agg ((a.eval x).cells.zipIdx.foldl (fun cs (p : Value × Nat) => cs.setIfInBounds (off + p.2) p.1) xs)) := by
            refine .ag _ _ (by rw [splice_length (by omega), f1, r1]) (fun j c y hj hy => ?_) (fun j y hy => ?_)
            · rw [splice_get (by omega)] at hj
              rw [f2 j, k1] at hy
              by_cases e : off ≤ j ∧ j < off + zs.length
              · rw [if_pos e] at hj hy
                obtain ⟨z, z1, _, z3⟩ := k2 _ c hj
                rw [z1] at hy; injection hy with hy; subst hy; exact z3
              · rw [if_neg e] at hj hy
                exact r2 _ _ _ hj hy
            · rw [f2 j, k1] at hy
              by_cases e : off ≤ j ∧ j < off + zs.length
              · rw [if_pos e] at hy
                obtain ⟨z, z1, z2, _⟩ := k2 (j - off) zs[j - off] (by simp)
                rw [z1] at hy; injection hy with hy; subst hy; exact z2
              · rw [if_neg e] at hy
                exact r3 _ _ hy
          obtain ⟨xs', g1, g2, g3⟩ := fill_ok ht r _ cs' _ hR' h
          refine ⟨xs', ?_, g2, by rw [g3, splice_length (by omega)]⟩
          simp only [List.map_cons, Instr.fill, h1]
          rw [if_neg (by simp; omega)]
          exact g1
theorem fill_congr {p q : Nat → Option (Nat × Nat)} : ∀ (ps : List (Nat × Value)) (xs : Array Value) (xs' : Array Value), (∀ i x, p i = some x → q i = some x) → Instr.fill p xs ps = some xs' → Instr.fill q xs ps = some xs'
  | [], xs, xs', _, h => h
  | (i, v) :: r, xs, xs', hpq, h => by
    simp only [Instr.fill] at h ⊢
    cases hp : p i with
    | none => simp [hp] at h
    | some x =>
      obtain ⟨off, size⟩ := x
      rw [hpq i _ hp]
      simp only [hp] at h ⊢
      split at h
      · cases h
      · rename_i hc
        rw [if_neg hc]
        exact fill_congr r _ xs' hpq h
theorem dok_build (hD : TDok P D) (hg : Good g st w) (ht : RelT g n t a) {T0 : TypeId} {parts : Array (Nat × Operand)} (ho : o.op = .build T0 parts)
    (h : dbuild D T0 (parts.toList.map fun p => (p.1, ev t p.2)) fun v => K v st) : DOk P o a g st w K X := by
  unfold dbuild at h
  split at h
  case h_2 => exact h.elim
  rename_i ti hti
  split at h
  case h_2 => exact h.elim
  rename_i z pl hag hz hpl
  split at h
  case h_2 => exact h.elim
  rename_i cs hcs
  obtain ⟨i, x, hi, hx, hR⟩ := R_zero (g := g) (hD _ _ hti) hz
  obtain ⟨xs', hf, hR', _⟩ := fill_ok ht parts.toList z cs x.cells hR hcs
  have hb : P.built T0 (parts.toList.map fun p => (p.1, a.eval p.2)) = some xs' := by
    obtain ⟨d, h1, h2, h3⟩ := (hD _ _ hti).under
    unfold Program.built
    unfold placesT at hpl
    split at hpl
    · rename_i fs hfs
      injection hpl with hpl
      subst hpl
      rw [hfs] at h3
      obtain ⟨fields, rfl, rfl, hall⟩ := h3
      simp only [h1, hi, hx]
      have hm : ∃ l, fields.toList.mapM (fun (f : Field) => (P.info? f.type).map fun i => (f.offset, i.size)) = some l ∧ ∀ (j : Nat) (f : Field), fields.toList[j]? = some f → ∃ i, P.info? f.type = some i ∧ l[j]? = some (f.offset, i.size) := by
        have hall' : ∀ f ∈ fields.toList, (P.info? f.type).isSome = true := fun f hf' => List.all_eq_true.1 hall f hf'
        generalize fields.toList = L at hall'
        induction L with
        | nil => exact ⟨[], rfl, by simp⟩
        | cons f r ih =>
          obtain ⟨l, l1, l2⟩ := ih fun f' hf' => hall' f' (by simp [hf'])
          obtain ⟨i, hi⟩ := Option.isSome_iff_exists.1 (hall' f (by simp))
          refine ⟨(f.offset, i.size) :: l, by simp [List.mapM_cons, hi, l1], fun j f' hj => ?_⟩
          cases j with
          | zero => simp at hj; subst hj; exact ⟨i, hi, rfl⟩
          | succ j => simp at hj; simpa using l2 j f' hj
      obtain ⟨l, l1, l2⟩ := hm
      simp only [l1]
      refine fill_congr _ _ _ (fun j p hp => ?_) hf
      simp only [List.getElem?_map] at hp
      cases hfj : fields.toList[j]? with
      | none => simp [hfj] at hp
      | some f =>
        simp only [hfj, Option.map_some] at hp
        split at hp
        case h_2 => cases hp
        rename_i te hte
        injection hp with hp
        subst hp
        obtain ⟨i', hi', hl⟩ := l2 j f hfj
        obtain ⟨i2, hi2, hs2, _⟩ := (hD _ _ hte).info
        rw [hi'] at hi2
        injection hi2 with hi2
        subst hi2
        rw [← hs2]
        simpa using hl
    · rename_i m e hfs
      split at hpl
      case h_2 => cases hpl
      rename_i te hte
      injection hpl with hpl
      subst hpl
      rw [hfs] at h3
      simp only [srtOk] at h3
      subst h3
      obtain ⟨i2, hi2, hs2, _⟩ := (hD _ _ hte).info
      simp only [h1, hi, hx, hi2, hs2]
      exact hf
    · cases hpl
  refine dok_val (x := .agg xs') hg ?_ hR' h
  have := run_build (P := P) w T0 (parts.map fun p => (p.1, a.eval p.2)) xs' (by simpa using hb)
  simp only [execOp, ho, Sem.run_bind, this, Result.andThen_ok, Sem.run_pure]

theorem repT_length (z : List T) : ∀ m, (repT z m).length = m * z.length
  | 0 => by simp [repT]
  | m + 1 => by simp [repT, repT_length z m, Nat.succ_mul, Nat.add_comm]
theorem repT_get (z : List T) : ∀ (len i : Nat), i < len * z.length → (repT z len)[i]? = z[i % z.length]?
  | 0, i, h => by simp at h
  | len + 1, i, h => by
    rw [repT]
    by_cases hi : i < z.length
    · rw [List.getElem?_append_left hi, Nat.mod_eq_of_lt hi]
    · rw [List.getElem?_append_right (by omega), repT_get z len _ (by rw [Nat.succ_mul] at h; omega)]
      rw [show i % z.length = (i - z.length) % z.length from Nat.mod_eq_sub_mod (by omega)]
theorem decs_ok (e : El) : ∀ (m : Nat) (cs : List T) (l : List (ty e)), cs.length = m * sz e → decs e m cs = some l → l.length = m ∧ ∀ (j : Nat) (u : T), (encs e l)[j]? = some u → ∃ c, cs[j]? = some c ∧ ∀ (g : G P) (z : Value), R g c z → R g u z
  | 0, cs, l, _, h => by simp [decs] at h; subst h; simp [encs]
  | m + 1, cs, l, hl, h => by
    simp only [decs] at h
    split at h
    case h_2 => cases h
    rename_i x l' hx hl'
    injection h with h
    subst h
    obtain ⟨d1, d2⟩ := dec_ok e _ x hx
    obtain ⟨e1, e2⟩ := decs_ok e m _ l' (by rw [List.length_drop, hl, Nat.succ_mul]; omega) hl'
    refine ⟨by simp [e1], fun j u hj => ?_⟩
    rw [encs_cons] at hj
    by_cases hjs : j < sz e
    · rw [List.getElem?_append_left (by rw [enc_len]; exact hjs)] at hj
      obtain ⟨c, c1, c2⟩ := d2 j u hj
      rw [List.getElem?_take_of_lt hjs] at c1
      exact ⟨c, c1, c2⟩
    · rw [List.getElem?_append_right (by rw [enc_len]; omega), enc_len] at hj
      obtain ⟨c, c1, c2⟩ := e2 _ u hj
      rw [List.getElem?_drop, show sz e + (j - sz e) = j by omega] at c1
      exact ⟨c, c1, c2⟩
theorem dok_buildSlice (hD : TDok P D) (hg : Good g st w) (ht : RelT g n t a) {T0 : TypeId} {len : Nat} {parts : Array (Nat × Operand)} (ho : o.op = .buildSlice T0 len parts) (h : dbuildSlice D T0 len (parts.toList.map fun p => (p.1, ev t p.2)) fun v => K v st) : DOk P o a g st w K X := by
  have hparts : (parts.map fun p => (p.1, a.eval p.2)).toList = parts.toList.map fun p => (p.1, a.eval p.2) := by simp
  unfold dbuildSlice at h
  split at h
  · split at h
    case h_2 => exact h.elim
    rename_i hps hti
    rename_i ti
    split at h
    case h_2 => exact h.elim
    rename_i e hs
    have hu := slice_under (hD _ _ hti) hs
    obtain ⟨i, hi⟩ := slice_info (hD _ _ hti) hs
    have hp0 : parts.toList = [] := by simpa using hps
    have hrun : (execOp a.eval o).run P w = .ok (.value (.slice (some ⟨w.heap.size, 0, none⟩) 0 0)) (w.alloc (.cells #[] e)) := by
      have hsz : (sizeOf e).run P w = .ok i.size w := quiet_run (by rw [quiet_size, hi]; rfl) w
      have hun : (underlying T0).run P w = .ok (.slice e) w := quiet_run (by rw [quiet_under, hu]) w
      have eR : (Array.range 0).map (fun i => (#[] : Array Value)[i % (#[] : Array Value).size]!) = #[] := by simp
      simp only [execOp, ho, Instr.buildSlice, Sem.run_bind, hun, Result.andThen_ok, hsz]
      rw [if_neg (by omega)]
      simp only [Sem.run_bind, Sem.run_pure, Result.andThen_ok, hparts, hp0, Nat.zero_mul, if_true, List.map_nil, Instr.fill, eR]
      rfl
    intro K' Q' hK' _
    unfold Oper.wp
    rw [hrun]
    obtain ⟨k1, k2, k3⟩ := good_ro (cs := []) (blk := #[]) (E := e) (w' := w.alloc (.cells #[] e)) hg ⟨by simp, by simp⟩ rfl rfl rfl rfl
    exact hK' _ _ _ _ _ h k1 ⟨k3, fun _ _ _ => rfl⟩ k2 (.nil _)
  · rename_i m
    split at h
    case h_2 => exact h.elim
    rename_i ti hti
    split at h
    case h_2 => exact h.elim
    rename_i te' hs
    split at h
    case h_2 => exact h.elim
    rename_i te hte
    split at h
    case h_2 => exact h.elim
    rename_i z e hz he
    split at h
    case h_2 => exact h.elim
    rename_i hle
    have hle := of_decide_eq_true hle
    split at h
    case h_2 => exact h.elim
    rename_i cs hcs
    split at h
    case h_2 => exact h.elim
    rename_i l hl
    have hu := slice_under (hD _ _ hti) hs
    obtain ⟨ie, x, hi, hx, hR⟩ := R_zero (g := g) (hD _ _ hte) hz
    obtain ⟨ie', hi2, hi', _, hz4⟩ := (hD _ _ hte).info
    rw [hi] at hi2
    injection hi2 with hi2
    subst hi2
    rw [show Nat.succ m = m + 1 from rfl] at hcs hl hle ho
    obtain ⟨hse, _⟩ := (hD _ _ hte).el e he
    have hp := sz_pos e
    have hsize0 : te.size = te.size := rfl
    generalize hsize : te.size = size at hsize0 hcs hle hse hi' ⊢
    generalize hlen : m + 1 = len at *
    cases hR with
    | ag _ _ r1 r2 r3 =>
    have hzl : z.length = size := by
      rw [← hsize]; exact (hz4 z hz).2
    have hzs : x.cells.size = size := by omega
    let X : Array Value := (Array.range (len * size)).map (x.cells[· % x.cells.size]!)
    have hX : ∀ i, i < len * size → X[i]? = x.cells[i % size]? := by
      intro i hi
      have hm : i % size < x.cells.size := by rw [hzs]; exact Nat.mod_lt _ (by omega)
      simp only [X, Array.getElem?_map, Array.getElem?_range, if_pos hi, Option.map_some, hzs]
      simp [getElem!_def, hm]
    have hfl : (repT z len).length = len * size := by rw [repT_length, hzl]
    have hXs : X.size = len * size := by simp [X]
    have hR0 : R g (.ag (repT z len)) (.agg X) := by
      refine .ag _ _ (by rw [hfl, hXs]) (fun i c y hi hy => ?_) (fun i y hy => ?_)
      · have hlt : i < len * size := by rw [← hXs]; exact (Array.getElem?_eq_some_iff.1 hy).1
        rw [hX i hlt] at hy
        rw [repT_get z len i (by rw [hzl]; exact hlt), hzl] at hi
        exact r2 _ _ _ hi hy
      · have hlt : i < len * size := by rw [← hXs]; exact (Array.getElem?_eq_some_iff.1 hy).1
        rw [hX i hlt] at hy
        exact r3 _ _ hy
    obtain ⟨xs', hf, hR', hcl⟩ := fill_ok ht parts.toList _ cs X hR0 hcs
    have hrun : (execOp a.eval o).run P w = .ok (.value (.slice (some ⟨w.heap.size, 0, none⟩) len len)) (w.alloc (.cells xs' te')) := by
      have hsz : (sizeOf te').run P w = .ok size w := quiet_run (by rw [quiet_size, hi]; simp [hi']) w
      have hun : (underlying T0).run P w = .ok (.slice te') w := quiet_run (by rw [quiet_under, hu]) w
      have hz0 : (zeroValue te').run P w = .ok x w := quiet_run (by rw [quiet_zero, hi]; simp [hx]) w
      have hne : ¬ len * size = 0 := by
        have : 0 < len * size := Nat.mul_pos (by omega) (by omega)
        omega
      have eX : (Array.range (len * size)).map (fun i => x.cells[i % x.cells.size]!) = X := rfl
      simp only [execOp, ho, Instr.buildSlice, Sem.run_bind, hun, Result.andThen_ok, hsz]
      rw [if_neg (by omega)]
      simp only [Sem.run_bind, Sem.run_pure, Result.andThen_ok, hparts]
      rw [if_neg hne]
      simp only [Sem.run_bind, Sem.run_pure, Result.andThen_ok, hz0, eX, hf]
      rfl
    intro K' Q' hK' _
    unfold Oper.wp
    rw [hrun]
    obtain ⟨d1, d2⟩ := decs_ok (P := P) e len cs l (by rw [hcl, hfl, hse]) hl
    cases hR' with
    | ag _ _ q1 q2 q3 =>
    have hcells : Cells g (encs e l) xs' := ⟨by rw [encs_len, d1, hse]; omega, fun j u hj => by
      obtain ⟨c, c1, c2⟩ := d2 j u hj
      have hlt : j < xs'.size := by rw [← q1]; exact (List.getElem?_eq_some_iff.1 c1).1
      exact ⟨xs'[j], Array.getElem?_eq_getElem hlt, q3 _ _ (Array.getElem?_eq_getElem hlt), c2 g _ (q2 _ _ _ c1 (Array.getElem?_eq_getElem hlt))⟩⟩
    obtain ⟨k1, k2, k3⟩ := good_ro (cs := encs e l) (blk := xs') (E := te') (w' := w.alloc (.cells xs' te')) hg hcells rfl rfl rfl rfl
    refine hK' _ _ _ _ _ h k1 ⟨k3, fun _ _ _ => rfl⟩ k2 ?_
    rw [← d1]
    refine .sl true e l _ _ (Nat.le_refl _) (by
      have : len ≤ len * size := Nat.le_mul_of_pos_right _ (by omega)
      simp only [maxLen]; omega) (fun _ => rfl) fun _ => ⟨w.heap.size, 0, encs e l, rfl, by simp, ?_⟩
    rw [List.drop_zero, List.take_of_length_le (by rw [encs_len]; exact Nat.le_refl _)]
end
end Go.Proofs.YtoclmkbjgmgekaaDoor

/-
  The machine over typed values, 10b: clear. No program in sight.
-/
namespace Go.Proofs.YtoclmkbjgmgekaaDoor
set_option linter.unusedVariables false
set_option linter.unusedSimpArgs false
set_option linter.unusedSectionVars false
open Go.RowKit
variable {P : Program} [Bd P]

theorem zeroCells_len {zs : Array Value} {n : Nat} : (Builtin.zeroCells zs n).toList.length = n * zs.size := by simp [Builtin.zeroCells]
theorem zeroCells_get {zs : Array Value} {n j : Nat} (h : j < n * zs.size) : (Builtin.zeroCells zs n).toList[j]? = zs[j % zs.size]? := by
  have hp : 0 < zs.size := by
    rcases Nat.eq_zero_or_pos zs.size with h0 | h0
    · rw [h0] at h; simp at h
    · exact h0
  have hm := Nat.mod_lt j hp
  simp [Builtin.zeroCells, h, hm]
section
variable {P : Program} [Bd P] {D : TD} {g : G P} {st : St} {w : World} {n : Nat} {t : Tm} {a : Act} {o : Oper} {K X : Kn}
theorem clearAt_len {α : Type} {l : List α} {off n : Nat} {y : α} (h : off + n ≤ l.length) : (clearAt l off n y).length = l.length := by simp [clearAt]; omega
theorem clearAt_get {α : Type} {l : List α} {off n : Nat} {y : α} (h : off + n ≤ l.length) (p : Nat) : (clearAt l off n y)[p]? = if off ≤ p ∧ p < off + n then some y else l[p]? := by
  unfold clearAt
  by_cases h1 : p < off
  · rw [List.getElem?_append_left (by simp; omega), List.getElem?_take_of_lt h1, if_neg (by omega)]
  · rw [List.getElem?_append_right (by simp; omega)]
    have hl : (l.take off).length = off := by simp; omega
    rw [hl]
    by_cases h2 : p < off + n
    · rw [List.getElem?_append_left (by simp; omega), if_pos (by omega), List.getElem?_replicate, if_pos (by omega)]
    · rw [List.getElem?_append_right (by simp; omega), if_neg (by omega), List.getElem?_drop]
      congr 1
      have : (List.replicate n y).length = n := List.length_replicate
      omega
theorem dok_clear1 (hg : Good g st w) {T0 E0 : TypeId} {te : TI} (hu : P.underlying T0 = some (.slice E0)) (hT : TIok P E0 te) {X0 : Operand} (ho : o.op = .call { callee := .builtin .clear, args := #[X0], argTypes := #[T0] }) {e : El} (he : te.el = some e) {z : List T} (hz : te.zero = some z) {y : ty e} (hy : dec e z = some y)
    {k ver : Nat} {l : List (ty e)} (hk : st[k]? = some (some (.arr ver e l))) {oi : OI} (hoi : g.ob k ver = some oi) {off m c : Nat} {A : Option Addr} (hex : a.eval X0 = .slice A m c) (hA : m ≠ 0 → A = some ⟨oi.b, off * sz e, none⟩) (hm : off + m ≤ l.length) (hK : K .undef (st.set k (some (.arr ver e (clearAt l off m y))))) : DOk P o a g st w K X := by
  obtain ⟨oi', h1, f1, f2, f3, f4⟩ := hg.arr hk
  rw [hoi] at h1
  injection h1 with h1
  subst h1
  have hkl : k < st.length := (List.getElem?_eq_some_iff.1 hk).1
  by_cases h0 : m = 0
  · subst h0
    have : st.set k (some (.arr ver e (clearAt l off 0 y))) = st := by
      have hc : clearAt l off 0 y = l := by simp [clearAt]
      rw [hc]
      refine List.ext_getElem? fun i => ?_
      rw [List.getElem?_set]
      split
      · rename_i e1; subst e1; first | (rw [hk]) | (rw [if_pos hkl, hk])
      · rfl
    rw [this] at hK
    refine dok_quiet (x := .tuple #[]) hg ?_ (.undef _) hK
    cases A <;> simp [execOp, ho, resolve, invoke, builtin, Builtin.clear_, hex, quiet_bind, hu]
  have hA := hA h0
  subst hA
  have hcap : oi.cap ≠ 0 := by omega
  obtain ⟨g0, blk, E, fr, g1, g2, g3, g4⟩ := f4 hcap
  obtain ⟨i, x, hi, hix, hx⟩ := R_zero (g := g) hT hz
  obtain ⟨d1, d2⟩ := dec_ok e z y hy
  have hp := sz_pos e
  cases hx with
  | ag _ _ r1 r2 r3 =>
  have hxs : x.cells.size = sz e := by rw [← r1, d1]
  have hlen : (Builtin.zeroCells x.cells m).toList.length = m * sz e := by rw [zeroCells_len, hxs]
  have hb : off * sz e + m * sz e ≤ l.length * sz e := by rw [← Nat.add_mul]; exact Nat.mul_le_mul_right _ hm
  have hle := g3.le
  rw [encs_len] at hle
  have hall : ∀ v ∈ (Builtin.zeroCells x.cells m).toList, v.oneCell' = true := by
    intro v hv
    obtain ⟨j, hj⟩ := List.getElem?_of_mem hv
    have hjl := (List.getElem?_eq_some_iff.1 hj).1
    rw [zeroCells_len] at hjl
    rw [zeroCells_get hjl] at hj
    exact r3 _ v hj
  obtain ⟨w', blk', a1, a2, a3, a4, a5, a6, a7, a8, a9⟩ := run_storeRow (P := P) oi.b (off * sz e) (Builtin.zeroCells x.cells m).toList 0 w blk E fr g1 g2 (by rw [hlen]; omega) hall
  have hz0 : ∀ w, (zeroValue E0).run P w = .ok x w := fun w => quiet_run (by rw [quiet_zero, hi]; simp [hix]) w
  have hrun : (execOp a.eval o).run P w = .ok (.value (.tuple #[])) w' := by
    obtain ⟨m', rfl⟩ : ∃ m', m = m' + 1 := ⟨m - 1, by omega⟩
    simp [execOp, ho, resolve, invoke, builtin, Builtin.clear_, hex, run_underlying hu, hz0, a1]
  intro K' Q' hK' _
  unfold Oper.wp
  rw [hrun]
  have hn : ¬ (isArr (.arr ver e l) = true ∧ oi.cap = 0) := by simp [hcap]
  have hcells : ∀ (j : Nat) (u : T), (encs e (clearAt l off m y))[j]? = some u → ∃ x : Value, blk'[j]? = some x ∧ x.oneCell' = true ∧ R g u x := by
    intro j u hj
    have hjl : j < (clearAt l off m y).length * sz e := by rw [← encs_len]; exact (List.getElem?_eq_some_iff.1 hj).1
    rw [clearAt_len hm] at hjl
    have hpd : j / sz e < l.length := Nat.div_lt_of_lt_mul (by rw [Nat.mul_comm]; exact hjl)
    have hje : j = j / sz e * sz e + j % sz e := by rw [Nat.mul_comm]; exact (Nat.div_add_mod j (sz e)).symm
    have hr := Nat.mod_lt j hp
    have hb' := a4 j
    simp only [Nat.add_zero, hlen] at hb'
    generalize hq : j / sz e = p at *
    generalize hrr : j % sz e = r at *
    by_cases hin : off ≤ p ∧ p < off + m
    · have hg' : (clearAt l off m y)[p]? = some y := by rw [clearAt_get hm, if_pos hin]
      rw [hje, encs_get hg' hr] at hj
      obtain ⟨c0, c1, c2⟩ := d2 r u hj
      have hlo : off * sz e ≤ j ∧ j < off * sz e + m * sz e := by
        have h2 := Nat.mul_le_mul_right (sz e) hin.1
        have h3 : p * sz e + sz e ≤ off * sz e + m * sz e := by rw [← Nat.succ_mul, ← Nat.add_mul]; exact Nat.mul_le_mul_right _ hin.2
        omega
      rw [if_pos hlo] at hb'
      have hj2 : j - off * sz e < m * x.cells.size := by rw [hxs]; omega
      rw [zeroCells_get hj2, hxs] at hb'
      have hmod : (j - off * sz e) % sz e = r := by
        rw [hje, show p * sz e + r - off * sz e = r + (p - off) * sz e by rw [Nat.sub_mul]; have := Nat.mul_le_mul_right (sz e) hin.1; omega, Nat.add_mul_mod_self_right, Nat.mod_eq_of_lt hr]
      rw [hmod] at hb'
      have hrl : r < x.cells.size := by omega
      rw [Array.getElem?_eq_getElem hrl] at hb'
      exact ⟨_, hb', r3 r _ (Array.getElem?_eq_getElem hrl), c2 g _ (r2 r c0 _ c1 (Array.getElem?_eq_getElem hrl))⟩
    · have hg' : (clearAt l off m y)[p]? = some l[p] := by rw [clearAt_get hm, if_neg hin, List.getElem?_eq_getElem hpd]
      rw [hje, encs_get hg' hr] at hj
      have hout : ¬ (off * sz e ≤ j ∧ j < off * sz e + m * sz e) := by
        intro ⟨q1, q2⟩
        apply hin
        rcases Nat.lt_or_ge p off with h2 | h2
        · have := Nat.mul_le_mul_right (sz e) (show p + 1 ≤ off from h2)
          rw [Nat.succ_mul] at this; omega
        · refine ⟨h2, ?_⟩
          rcases Nat.lt_or_ge p (off + m) with h3 | h3
          · exact h3
          · have := Nat.mul_le_mul_right (sz e) h3
            rw [Nat.add_mul] at this; omega
      rw [if_neg hout] at hb'
      have hold : (encs e l)[j]? = some u := by rw [hje, encs_get (List.getElem?_eq_getElem hpd) hr]; exact hj
      obtain ⟨v, v1, v2, v3⟩ := g3.at_ j u hold
      exact ⟨v, by rw [hb']; exact v1, v2, v3⟩
  obtain ⟨k1, k2, k3⟩ := good_put (st' := st.set k (some (.arr ver e (clearAt l off m y)))) (o' := .arr ver e (clearAt l off m y)) (oi := oi) (w' := w') hg (set_at hkl) (by omega) (by simp) rfl (.inr hoi) (fun u oi' hu => old_ver hg hk hu) ⟨by rw [clearAt_len hm]; exact f1, f2, f3⟩
    (fun _ => .inr ⟨_, hk, blk_of hoi hn⟩) a7 a8 a9 (by omega) (fun b _ hb => a5 b fun e1 => hb _ hk (by rw [blk_of hoi hn, e1])) (fun _ => ⟨blk', E, fr, a2, by rw [a3]; exact g2, ⟨by simp only [obCells]; rw [a3, encs_len, clearAt_len hm]; exact hle, hcells⟩, by simp only [obWide]; rw [a3]; exact g4⟩) (fun o2 ho2 => by
      rw [hk] at ho2
      simp only [Option.some.injEq] at ho2
      subst ho2
      exact ⟨_, _, rfl⟩)
  exact hK' _ _ _ _ _ hK k1 ⟨k3, set_hid (.inl ⟨_, hk⟩)⟩ k2 (.undef _)
theorem dok_clear (hD : TDok P D) (hg : Good g st w) (ht : RelT g n t a) {T0 : TypeId} {x : Operand} (ho : o.op = .call { callee := .builtin .clear, args := #[x], argTypes := #[T0] }) {te : TI} (hte : elemOf D T0 = some te) (h : dclear te st (ev t x) fun s => K .undef s) : DOk P o a g st w K X := by
  unfold elemOf at hte
  split at hte
  case h_2 => cases hte
  rename_i ti hti
  split at hte
  case h_2 => cases hte
  rename_i t' hs
  have hu := slice_under (hD _ _ hti) hs
  have hT := hD _ _ hte
  unfold dclear at h
  split at h
  case h_2 => exact h.elim
  rename_i e z he hz
  split at h
  case h_2 => exact h.elim
  rename_i y hy
  have hR := ht.ev x
  generalize hv : ev t x = xv at hR h
  generalize hex : a.eval x = ex at hR
  split at h
  · cases hR with
    | nil A =>
      refine dok_quiet (x := .tuple #[]) hg ?_ (.undef _) h
      cases A <;> simp [execOp, ho, resolve, invoke, builtin, Builtin.clear_, hex, quiet_bind, hu]
  · rename_i e' k ver
    split at h
    case isFalse => exact h.elim
    rename_i hk
    subst hk
    split at h
    case h_2 => exact h.elim
    rename_i l hl
    cases hR with
    | oa _ _ _ oi A p1 p2 p3 p4 =>
      have hk := arrOf_some hl
      obtain ⟨oi', h1, f1, f2, f3, _⟩ := hg.arr hk
      rw [p1] at h1
      injection h1 with h1
      subst h1
      rw [← f1] at h
      exact dok_clear1 hg hu hT ho he hz hy hk p1 (off := 0) hex (fun h0 => by rw [Nat.zero_mul]; exact p2 (by omega)) (by omega) h
  · rename_i e' k ver off m
    split at h
    case isFalse => exact h.elim
    rename_i hk
    subst hk
    split at h
    case h_2 => exact h.elim
    rename_i l hl
    cases hR with
    | os _ _ _ _ _ oi A c p1 p2 p3 p4 p5 p6 =>
      have hk := arrOf_some hl
      obtain ⟨oi', h1, f1, f2, f3, _⟩ := hg.arr hk
      rw [p1] at h1
      injection h1 with h1
      subst h1
      exact dok_clear1 hg hu hT ho he hz hy hk p1 hex (fun hn => p3 (by omega)) (by omega) h
  · exact h.elim
end
end Go.Proofs.YtoclmkbjgmgekaaDoor

/-
  The machine over typed values, 10: append, and all operations together. No program in sight.
-/
namespace Go.Proofs.YtoclmkbjgmgekaaDoor
set_option linter.unusedVariables false
set_option linter.unusedSimpArgs false
set_option linter.unusedSectionVars false
open Go.RowKit Go.Lib
variable {P : Program} [Bd P]

section
variable {P : Program} [Bd P] {D : TD} {g : G P} {st : St} {w : World} {n : Nat} {t : Tm} {a : Act} {o : Oper} {K X : Kn}

/-- The elements of a slice, in memory. -/
structure Src (g : G P) (w : World) (e : El) (l : List (ty e)) (A : Option Addr) (news : List Value) : Prop where
  len : news.length = l.length * sz e
  none_ : A = none → l.length = 0
  cell : ∀ b, A = some b → ∀ (j : Nat) (u : Value), news[j]? = some u → w.cell? (b.add j) = some u
  one : ∀ u ∈ news, u.oneCell' = true
  val : ∀ (j : Nat) (u : T) (y : Value), (encs e l)[j]? = some u → news[j]? = some y → R g u y
theorem Src.nil {e : El} {A : Option Addr} : Src g w e [] A [] := ⟨by simp, fun _ => rfl, by simp, by simp, by simp⟩
theorem Src.of {e : El} {l : List (ty e)} {b off : Nat} (h : RowAt g w (encs e l) b off) : ∃ news, Src g w e l (some ⟨b, off, none⟩) news := by
  obtain ⟨news, n1, n2⟩ := exists_list (l.length * sz e) (p := fun j y => ∃ u, (encs e l)[j]? = some u ∧ w.cell? ⟨b, off + j, none⟩ = some y ∧ y.oneCell' = true ∧ R g u y) (fun j hj => by
    have hu : (encs e l)[j]? = some ((encs e l)[j]'(by rw [encs_len]; exact hj)) := by simp
    obtain ⟨y, y1, y2, y3⟩ := h j _ hu
    exact ⟨y, _, hu, y1, y2, y3⟩)
  refine ⟨news, n1, by simp, fun b' hb j u hj => ?_, fun u hu => ?_, fun j u y hu hy => ?_⟩
  · injection hb with hb
    subst hb
    obtain ⟨_, _, k2, _⟩ := n2 j u hj
    rw [Addr.add_lit]; exact k2
  · obtain ⟨j, hj⟩ := List.getElem?_of_mem hu
    obtain ⟨_, _, _, k3, _⟩ := n2 j u hj
    exact k3
  · obtain ⟨u', k1, _, _, k4⟩ := n2 j y hy
    rw [hu] at k1; injection k1 with k1; subst k1; exact k4
theorem src_arr (hg : Good g st w) {e : El} {k ver : Nat} {l : List (ty e)} (hl : arrOf st e k ver = some l) {oi : OI} (hoi : g.ob k ver = some oi) (off m : Nat) (hm : off + m ≤ l.length) {A : Option Addr} (hA : m ≠ 0 → A = some ⟨oi.b, off * sz e, none⟩) : ∃ news, Src g w e ((l.drop off).take m) A news := by
  obtain ⟨oi', h1, h2, h3, _, h4⟩ := hg.arr (arrOf_some hl)
  rw [hoi] at h1
  injection h1 with h1
  subst h1
  by_cases hm0 : m = 0
  · subst hm0
    exact ⟨[], by rw [List.take_zero]; exact Src.nil⟩
  · rw [hA hm0]
    obtain ⟨_, blk, E, fr, b1, _, b2, _⟩ := h4 (by omega)
    refine Src.of ?_
    rw [← encs_take, ← encs_drop]
    exact (RowAt.of b2 b1 _).take _
theorem src_ok (hg : Good g st w) {e : El} {v : T} {x : Value} {K : List (ty e) → Prop} (hR : R g v x) (h : elems st e v K) : ∃ l A c news, K l ∧ x = .slice A l.length c ∧ Src g w e l A news := by
  unfold elems at h
  split at h
  · cases hR with
    | nil A => exact ⟨[], A, 0, [], h, rfl, Src.nil⟩
  · rename_i full e' l
    split at h
    case isFalse => exact h.elim
    rename_i he
    subst he
    cases hR with
    | sl _ _ _ A c h1 h2 h3 h4 =>
      by_cases hne : l = []
      · subst hne
        exact ⟨[], A, c, [], h, rfl, Src.nil⟩
      · obtain ⟨b, off, cs, rfl, hro, henc⟩ := h4 hne
        obtain ⟨blk, E, fr, b1, b2⟩ := hg.ro b cs hro
        obtain ⟨news, hs⟩ := Src.of (e := e') (l := l) (b := b) (off := off) (g := g) (w := w) (by rw [← henc]; exact RowAt.ofR b2 b1 _ _ (by rw [henc]; exact encs_pure))
        exact ⟨l, _, c, news, h, rfl, hs⟩
  · rename_i e' k ver
    split at h
    case isFalse => exact h.elim
    rename_i he
    subst he
    split at h
    case h_2 => exact h.elim
    rename_i l hl
    cases hR with
    | oa _ _ _ oi A p1 p2 p3 p4 =>
      obtain ⟨oi', q1, q2, q3, _⟩ := hg.arr (arrOf_some hl)
      rw [p1] at q1
      injection q1 with q1
      subst q1
      obtain ⟨news, hs⟩ := src_arr hg hl p1 0 l.length (by omega) (A := A) (fun hn => by rw [p2 (by omega)]; simp)
      rw [List.drop_zero, List.take_of_length_le (Nat.le_refl _)] at hs
      exact ⟨l, A, _, news, h, by rw [q2], hs⟩
  · rename_i e' k ver off m
    split at h
    case isFalse => exact h.elim
    rename_i he
    subst he
    split at h
    case h_2 => exact h.elim
    rename_i l hl
    cases hR with
    | os _ _ _ _ _ oi A c p1 p2 p3 p4 p5 p6 =>
      obtain ⟨oi', q1, q2, q3, _⟩ := hg.arr (arrOf_some hl)
      rw [p1] at q1
      injection q1 with q1
      subst q1
      obtain ⟨news, hs⟩ := src_arr hg hl p1 off m (by omega) (fun hn => p3 (by omega))
      refine ⟨_, A, c, news, h, ?_, hs⟩
      have : ((l.drop off).take m).length = m := by simp; omega
      rw [this]
  · exact h.elim
theorem Cells.new {cs ds : List T} {olds news : List Value} {rest : Array Value} (h1 : cs.length = olds.length) (h2 : ds.length = news.length) (r1 : ∀ (j : Nat) (u : T) (y : Value), cs[j]? = some u → olds[j]? = some y → R g u y) (r2 : ∀ (j : Nat) (u : T) (y : Value), ds[j]? = some u → news[j]? = some y → R g u y)
    (o1 : ∀ u ∈ olds, u.oneCell' = true) (o2 : ∀ u ∈ news, u.oneCell' = true) : Cells g (cs ++ ds) (olds.toArray ++ news.toArray ++ rest) := by
  refine ⟨by simp; omega, fun j u hu => ?_⟩
  have hj : j < olds.length + news.length := by have := (List.getElem?_eq_some_iff.1 hu).1; simp at this; omega
  by_cases e : j < olds.length
  · rw [List.getElem?_append_left (by omega)] at hu
    refine ⟨olds[j], ?_, o1 _ (List.getElem_mem e), r1 j u _ hu (List.getElem?_eq_getElem e)⟩
    rw [Array.getElem?_append_left (by simp; omega), Array.getElem?_append_left (by simpa using e)]
    simp [e]
  · rw [List.getElem?_append_right (by omega)] at hu
    have e' : j - olds.length < news.length := by omega
    refine ⟨news[j - olds.length], ?_, o2 _ (List.getElem_mem e'), r2 _ u _ (by rw [← h1]; exact hu) (List.getElem?_eq_getElem e')⟩
    rw [Array.getElem?_append_left (by simp; omega), Array.getElem?_append_right (by simp; omega)]
    simp [e']

/-- An append that makes a new row. -/
theorem dok_growX (hg : Good g st w) {te : TypeId} {ti : TI} (hT : TIok P te ti) {x y : Operand} {ts : Array TypeId} (ho : o.op = .call { callee := .builtin .append, args := #[x, y], argTypes := ts }) {e : El} (he : ti.el = some e) {z : List T} (hz : ti.zero = some z) {l m : List (ty e)} {A : Option Addr} {c : Nat} {olds news : List Value}
    (h1 : Src g w e l A olds) (n1 : news.length = m.length * sz e) (n2 : ∀ u ∈ news, u.oneCell' = true) (n3 : ∀ (j : Nat) (u : T) (y : Value), (encs e m)[j]? = some u → news[j]? = some y → R g u y) (hc : c < l.length + m.length) (hroom : (l.length + m.length) * ti.bytes ≤ 140737488355328)
    (hrun : ∀ (ie : TypeInfo) (xz : Value), P.info? te = some ie → ie.zero = some xz → (Builtin.append_ ts o.type #[a.eval x, a.eval y]).run P w = .ok (.slice (some ⟨w.heap.size, 0, none⟩) (l.length + m.length) (grownCap w (l.length + m.length) c te)) (w.drew.alloc (.cells (olds.toArray ++ news.toArray ++ Builtin.zeroCells xz.cells (grownCap w (l.length + m.length) c te - (l.length + m.length))) te)))
    {k v : Nat} {st' : St} (hst : ∀ i, st'[i]? = if i = k then some (some (.arr v e (l ++ m))) else st[i]?) (hk : k ≤ st.length) (hkk : (∃ o, st[k]? = some (some o)) ∨ k = st.length) (hl : st.length ≤ st'.length) (hnew : g.ob k v = none) (hver : ∀ u oi, g.ob k u = some oi → u ≤ v) (hkept : ∀ o, st[k]? = some (some o) → ∃ v' l', o = .arr v' e l') (hK : K (.oa e k v) st') : DOk P o a g st w K X := by
  obtain ⟨ie, xz, hi, hxz, hRz⟩ := R_zero (g := g) hT hz
  obtain ⟨ie', hi2, hi', hby, hz4⟩ := hT.info
  rw [hi] at hi2
  injection hi2 with hi2
  subst hi2
  obtain ⟨hse, hb0⟩ := hT.el e he
  have hp := sz_pos e
  have hzs : xz.cells.size = sz e := by
    have := (hz4 z hz).2
    cases hRz with | ag _ _ r1 _ _ => omega
  have h63 : l.length + m.length ≤ maxLen := by
    have : l.length + m.length ≤ (l.length + m.length) * ti.bytes := Nat.le_mul_of_pos_right _ hb0
    simp only [maxLen]; omega
  have hrun := hrun ie xz hi hxz
  obtain ⟨gc1, gc2⟩ := grownCap_bounds w (l.length + m.length) c te h63
  intro K' Q' hK' _
  unfold Oper.wp
  rw [execOp_append ho hrun]
  have hbs : (olds.toArray ++ news.toArray ++ Builtin.zeroCells xz.cells (grownCap w (l.length + m.length) c te - (l.length + m.length))).size = grownCap w (l.length + m.length) c te * sz e := by
    simp only [Array.size_append, List.size_toArray, h1.len, n1, size_zeroCells', hzs]
    rw [← Nat.add_mul, ← Nat.add_mul]
    congr 1; omega
  have hrow := Cells.new (rest := Builtin.zeroCells xz.cells (grownCap w (l.length + m.length) c te - (l.length + m.length))) (by rw [encs_len, h1.len]) (by rw [encs_len, n1]) h1.val n3 h1.one n2
  rw [← encs_append] at hrow
  generalize olds.toArray ++ news.toArray ++ Builtin.zeroCells xz.cells (grownCap w (l.length + m.length) c te - (l.length + m.length)) = BLK at hbs hrow ⊢
  obtain ⟨k1, k2, k3⟩ := good_put (st' := st') (k := k) (v := v) (o' := .arr v e (l ++ m)) (oi := ⟨w.heap.size, l.length + m.length, grownCap w (l.length + m.length) c te⟩) (w' := w.drew.alloc (.cells BLK te)) hg hst hk hl rfl (.inl hnew) hver ⟨by simp, gc1, gc2⟩
    (fun _ => .inl (Nat.le_refl _)) rfl rfl rfl (by simp) (fun b hb _ => Below.heap_alloc w.drew _ b hb) (fun _ => ⟨BLK, te, (0, 0), heap_alloc_new w.drew _, fun q _ h => absurd h.2 (Nat.not_lt_zero _), hrow, by simp only [obWide]; exact ⟨by omega, hT.elt e he⟩⟩) (fun o ho => by
      obtain ⟨v', l', rfl⟩ := hkept o ho
      exact ⟨_, _, rfl⟩)
  exact hK' _ _ _ _ _ hK k1 ⟨k3, set_hid hkk⟩ k2 (.oa e k v ⟨w.heap.size, l.length + m.length, grownCap w (l.length + m.length) c te⟩ _ (by simp [G.set]) (fun _ => by simp) gc1 gc2)
theorem dok_grow (hg : Good g st w) {T0 te : TypeId} {ti : TI} (hT : TIok P te ti) (hu : P.underlying T0 = some (.slice te)) {x y : Operand} (ho : o.op = .call { callee := .builtin .append, args := #[x, y], argTypes := #[T0, T0] }) {e : El} (he : ti.el = some e) {z : List T} (hz : ti.zero = some z) {l m : List (ty e)} {A B : Option Addr} {c cB : Nat} {olds news : List Value}
    (hx : a.eval x = .slice A l.length c) (hy : a.eval y = .slice B m.length cB) (h1 : Src g w e l A olds) (h2 : Src g w e m B news) (hA : A = none → c = 0) (hc : c < l.length + m.length) (hroom : (l.length + m.length) * ti.bytes ≤ 140737488355328)
    {k v : Nat} {st' : St} (hst : ∀ i, st'[i]? = if i = k then some (some (.arr v e (l ++ m))) else st[i]?) (hk : k ≤ st.length) (hkk : (∃ o, st[k]? = some (some o)) ∨ k = st.length) (hl : st.length ≤ st'.length) (hnew : g.ob k v = none) (hver : ∀ u oi, g.ob k u = some oi → u ≤ v) (hkept : ∀ o, st[k]? = some (some o) → ∃ v' l', o = .arr v' e l') (hK : K (.oa e k v) st') : DOk P o a g st w K X := by
  obtain ⟨ie', hi2, hi', hby, hz4⟩ := hT.info
  obtain ⟨hse, hb0⟩ := hT.el e he
  have h63 : l.length + m.length ≤ maxLen := by
    have : l.length + m.length ≤ (l.length + m.length) * ti.bytes := Nat.le_mul_of_pos_right _ hb0
    simp only [maxLen]; omega
  refine dok_growX hg hT ho he hz h1 h2.len h2.one h2.val hc hroom (fun ie xz hi hxz => ?_) hst hk hkk hl hnew hver hkept hK
  rw [hi] at hi2
  injection hi2 with hi2
  subst hi2
  rw [hx, hy]
  exact run_append_new (P := P) (w := w) (ty := o.type) hu hi hxz A B l.length c m.length cB olds news (by rw [h1.len, hi', hse]) (fun e => ⟨h1.none_ e, hA e⟩) h1.cell (by rw [h2.len, hi', hse]) h2.none_ h2.cell hc h63 (by rw [hby]; exact hroom)
theorem encs_rep {e : El} {y : ty e} {m j : Nat} {u : T} (h : (encs e (List.replicate m y))[j]? = some u) : j < m * sz e ∧ (enc e y)[j % sz e]? = some u := by
  have hp := sz_pos e
  have hjl : j < m * sz e := by have := (List.getElem?_eq_some_iff.1 h).1; rwa [encs_len, List.length_replicate] at this
  have hpd : j / sz e < m := Nat.div_lt_of_lt_mul (by rw [Nat.mul_comm]; exact hjl)
  have hje : j = j / sz e * sz e + j % sz e := by rw [Nat.mul_comm]; exact (Nat.div_add_mod j (sz e)).symm
  rw [hje, encs_get (x := y) (by simp [hpd]) (Nat.mod_lt j hp)] at h
  exact ⟨hjl, h⟩
theorem dok_appendZ (hD : TDok P D) (hg : Good g st w) (ht : RelT g n t a) {T0 T1 : TypeId} {x y : Operand} (ho : o.op = .call { callee := .builtin .append, args := #[x, y], argTypes := #[T0, T1] }) {te ti1 : TI} {k : IntKind} (hte : elemOf D T0 = some te) (hti1 : tyOf D T1 = some ti1) (hs1 : ti1.srt = .int k) {e' : El} {l : List (ty e')} {k1 : IntKind} {m : Int}
    (hx : ev t x = .sl true e' l) (hy : ev t y = .int k1 m) (h : dappendZ te st e' l m K) : DOk P o a g st w K X := by
  unfold elemOf at hte
  split at hte
  case h_2 => cases hte
  rename_i ti hti
  split at hte
  case h_2 => cases hte
  rename_i t' hs
  have hu := slice_under (hD _ _ hti) hs
  have hU := int_under (hD _ _ hti1) hs1
  have hT := hD _ _ hte
  unfold dappendZ at h
  split at h
  case h_2 => exact h.elim
  rename_i e z he hz
  split at h
  case h_2 => exact h.elim
  rename_i y0 hy0
  split at h
  case isFalse => exact h.elim
  rename_i he'
  subst he'
  obtain ⟨hm, hroom, hK⟩ := h
  obtain ⟨m, rfl⟩ : ∃ n : Nat, m = (n : Int) := ⟨m.toNat, by omega⟩
  have hm : 0 < m := by omega
  rw [Int.toNat_natCast] at hroom hK
  have hR := ht.ev x
  rw [hx] at hR
  have hyv : a.eval y = .int k1 (m : Int) := R_int (by have := ht.ev y; rw [hy] at this; exact this)
  obtain ⟨ie', hi2, hi', hby, hz4⟩ := hT.info
  obtain ⟨hse, hb0⟩ := hT.el e' he
  have hp := sz_pos e'
  obtain ⟨ie, xz, hi, hxz, hRz⟩ := R_zero (g := g) hT hz
  rw [hi] at hi2
  injection hi2 with hi2
  subst hi2
  obtain ⟨d1, d2⟩ := dec_ok e' z y0 hy0
  cases hRz with
  | ag _ _ r1 r2 r3 =>
  have hxs : xz.cells.size = sz e' := by rw [← r1, d1]
  have h63 : l.length + m ≤ maxLen := by
    have : l.length + m ≤ (l.length + m) * te.bytes := Nat.le_mul_of_pos_right _ hb0
    simp only [maxLen]; omega
  obtain ⟨l2, A, c, olds, hl2, hxv, hsrcx⟩ := src_ok (e := e') (K := fun l2 => l2 = l) hg (x := a.eval x) (v := .sl true e' l) hR (by simp [elems, asKind])
  subst hl2
  obtain ⟨A', c', hs', _, _, hfull⟩ := R_slshape hR
  rw [hxv] at hs'
  simp only [Value.slice.injEq, true_and] at hs'
  obtain ⟨rfl, rfl⟩ := hs'
  have hlen : (Builtin.zeroCells xz.cells m).toList.length = m * sz e' := by rw [zeroCells_len, hxs]
  refine dok_growX (m := List.replicate m y0) (news := (Builtin.zeroCells xz.cells m).toList) (A := A) (c := c) hg hT ho he hz hsrcx (by rw [hlen, List.length_replicate]) (fun v hv => ?_) (fun j u v hj hv => ?_) (by rw [hfull rfl, List.length_replicate]; omega) (by rw [List.length_replicate]; exact hroom) (fun ie2 xz2 hi2 hxz2 => ?_) push_at (Nat.le_refl _) (.inr rfl) (by simp) (no_new hg) (fun u oi hu => by rw [no_new hg] at hu; cases hu) (fun o ho => by rw [List.getElem?_eq_none (Nat.le_refl _)] at ho; cases ho) hK
  · obtain ⟨j, hj⟩ := List.getElem?_of_mem hv
    have hjl := (List.getElem?_eq_some_iff.1 hj).1
    rw [zeroCells_len] at hjl
    rw [zeroCells_get hjl] at hj
    exact r3 _ v hj
  · obtain ⟨hjl, hj⟩ := encs_rep hj
    rw [zeroCells_get (by rw [hxs]; exact hjl), hxs] at hv
    obtain ⟨c0, c1, c2⟩ := d2 _ u hj
    exact c2 g _ (r2 _ c0 _ c1 hv)
  · rw [hi] at hi2
    injection hi2 with hi2
    subst hi2
    rw [hxz] at hxz2
    injection hxz2 with hxz2
    subst hxz2
    rw [hxv, hyv, List.length_replicate, Array.toArray_toList]
    exact run_append_zeros hu hU hi hxz A l2.length c m k1 olds (by rw [hsrcx.len, hi', hse]) (fun hn => ⟨hsrcx.none_ hn, by rw [hfull rfl]; exact hsrcx.none_ hn⟩) hsrcx.cell hm (by rw [hi', ← hse]; exact hp) (by rw [hfull rfl]; omega) h63 (by rw [hby]; exact hroom)
theorem run_make {T0 te : TypeId} {ie : TypeInfo} {xz : Value} (hu : P.underlying T0 = some (.slice te)) (hi : P.info? te = some ie) (hz : ie.zero = some xz) (hsz : ie.size = xz.cells.size) (hb : 0 < ie.bytes) (m : Nat) (hroom : m * ie.bytes ≤ 140737488355328) :
    (Instr.makeSlice T0 (.int .i64 m) (.int .i64 m)).run P w = .ok (.slice (some ⟨w.heap.size, 0, none⟩) m m) (w.alloc (.cells (Builtin.zeroCells xz.cells m) te)) := by
  have hm : m ≤ 140737488355328 := Nat.le_trans (Nat.le_mul_of_pos_right _ hb) hroom
  have hw : IntKind.i64.wrap (m : Int) = m := by simp [IntKind.wrap, IntKind.min, IntKind.max, IntKind.bits, IntKind.signed]; omega
  have hq : ¬ ((ie.bytes : Int) * (m : Int) > 2 ^ 48) := by
    have : ((ie.bytes : Int) * (m : Int)) = ((m * ie.bytes : Nat) : Int) := by rw [Int.natCast_mul, Int.mul_comm]
    rw [this]; omega
  have hun : (underlying T0).run P w = .ok (.slice te) w := quiet_run (by rw [quiet_under, hu]) w
  have hti : (typeInfo te).run P w = .ok ie w := by simp [typeInfo, hi]
  have hsz' : (sizeOf te).run P w = .ok ie.size w := quiet_run (by rw [quiet_size, hi]; rfl) w
  have hz' : (zeroValue te).run P w = .ok xz w := quiet_run (by rw [quiet_zero, hi]; simp [hz]) w
  have hai : (Go.asInt (.int .i64 (m : Int))).run P w = .ok (m : Int) w := rfl
  have hneg : ¬ ((m : Int) < 0) := by omega
  have hgt : ¬ ((m : Int) > (m : Int)) := by omega
  simp only [Instr.makeSlice, Sem.run_bind, hun, Result.andThen_ok, hai, Sem.run_pure, hti, hw, hneg, hq, hgt, decide_false, Bool.or_false, Bool.false_eq_true, if_false, run_askRoom, hsz', Int.toNat_natCast]
  by_cases h0 : m * ie.size = 0
  · rw [if_pos h0]
    have e : m = 0 ∨ xz.cells.size = 0 := by rw [← hsz]; exact Nat.mul_eq_zero.1 h0
    have e0 : ∀ f : Nat → Value, (Array.range 0).map f = #[] := fun f => by
      apply Array.eq_empty_of_size_eq_zero; simp
    simp only [h0, Sem.run_bind, newRow, newObj, Builtin.zeroCells, ← hsz, e0, Sem.run_pure, Result.andThen_ok]
    rfl
  · rw [if_neg h0]
    simp [Sem.run_bind, hz', newRow, newObj, Builtin.zeroCells, hsz]
    rfl
theorem dok_make (hD : TDok P D) (hg : Good g st w) (ht : RelT g n t a) {T0 : TypeId} {x y : Operand} (ho : o.op = .makeSlice T0 x y) (h : dmake D T0 (ev t x) (ev t y) st K) : DOk P o a g st w K X := by
  unfold dmake at h
  split at h
  case h_2 => exact h.elim
  rename_i te hte
  unfold elemOf at hte
  split at hte
  case h_2 => cases hte
  rename_i ti hti
  split at hte
  case h_2 => cases hte
  rename_i t' hs
  have hu := slice_under (hD _ _ hti) hs
  have hT := hD _ _ hte
  split at h
  case h_2 => exact h.elim
  rename_i e z he hz
  split at h
  case h_2 => exact h.elim
  rename_i y0 hy0
  split at h
  case h_2 => exact h.elim
  rename_i m c hx hy
  obtain ⟨⟨hm, rfl⟩, hroom, hK⟩ := h
  have hK := hK _ rfl
  obtain ⟨m, rfl⟩ : ∃ n : Nat, c = (n : Int) := ⟨c.toNat, by omega⟩
  rw [Int.toNat_natCast] at hroom hK
  have hxv : a.eval x = .int .i64 (m : Int) := R_int (by have := ht.ev x; rw [hx] at this; exact this)
  have hyv : a.eval y = .int .i64 (m : Int) := R_int (by have := ht.ev y; rw [hy] at this; exact this)
  obtain ⟨ie', hi2, hi', hby, hz4⟩ := hT.info
  obtain ⟨hse, hb0⟩ := hT.el e he
  have hp := sz_pos e
  obtain ⟨ie, xz, hi, hxz, hRz⟩ := R_zero (g := g) hT hz
  rw [hi] at hi2
  injection hi2 with hi2
  subst hi2
  obtain ⟨d1, d2⟩ := dec_ok e z y0 hy0
  cases hRz with
  | ag _ _ r1 r2 r3 =>
  have hxs : xz.cells.size = sz e := by rw [← r1, d1]
  have hmax : m ≤ maxLen := by
    have : m ≤ m * te.bytes := Nat.le_mul_of_pos_right _ hb0
    simp only [maxLen]; omega
  have hrun : (execOp a.eval o).run P w = .ok (.value (.slice (some ⟨w.heap.size, 0, none⟩) m m)) (w.alloc (.cells (Builtin.zeroCells xz.cells m) t')) := by
    simp only [execOp, ho, hxv, hyv, Sem.run_bind, run_make hu hi hxz (by rw [hi', hxs, hse]) (by rw [hby]; exact hb0) m (by rw [hby]; exact hroom), Result.andThen_ok]
    rfl
  have hlen : (Builtin.zeroCells xz.cells m).toList.length = m * sz e := by rw [zeroCells_len, hxs]
  have hsize : (Builtin.zeroCells xz.cells m).size = m * sz e := by rw [← Array.length_toList]; exact hlen
  have hcells : Cells g (encs e (List.replicate m y0)) (Builtin.zeroCells xz.cells m) := by
    refine ⟨by rw [encs_len, List.length_replicate, hsize]; exact Nat.le_refl _, fun j u hj => ?_⟩
    obtain ⟨hjl, hj⟩ := encs_rep hj
    have hv : (Builtin.zeroCells xz.cells m)[j]? = xz.cells[j % sz e]? := by
      rw [← Array.getElem?_toList, zeroCells_get (by rw [hxs]; exact hjl), hxs]
    obtain ⟨c0, c1, c2⟩ := d2 _ u hj
    have hlt : j % sz e < xz.cells.size := by rw [hxs]; exact Nat.mod_lt _ hp
    exact ⟨xz.cells[j % sz e], by rw [hv]; simp [hlt], r3 _ _ (Array.getElem?_eq_getElem hlt), c2 g _ (r2 _ c0 _ c1 (Array.getElem?_eq_getElem hlt))⟩
  intro K' Q' hK' _
  unfold Oper.wp
  rw [hrun]
  obtain ⟨k1, k2, k3⟩ := good_put (st' := st ++ [some (.arr 0 e (List.replicate m y0))]) (k := st.length) (v := 0) (o' := .arr 0 e (List.replicate m y0)) (oi := ⟨w.heap.size, m, m⟩) (w' := w.alloc (.cells (Builtin.zeroCells xz.cells m) t')) hg push_at (Nat.le_refl _) (by simp) rfl (.inl (no_new hg)) (fun u oi hu => by rw [no_new hg] at hu; cases hu) ⟨by simp, Nat.le_refl _, hmax⟩
    (fun _ => .inl (Nat.le_refl _)) rfl rfl rfl (by simp) (fun b hb _ => Below.heap_alloc w _ b hb) (fun _ => ⟨_, t', (0, 0), heap_alloc_new w _, fun q _ h => absurd h.2 (Nat.not_lt_zero _), hcells, by simp only [obWide]; exact ⟨by rw [hsize]; exact Nat.le_refl _, hT.elt e he⟩⟩) (fun o ho => by rw [List.getElem?_eq_none (Nat.le_refl _)] at ho; cases ho)
  exact hK' _ _ _ _ _ hK k1 ⟨k3, set_hid (.inr rfl)⟩ k2 (.oa e st.length 0 ⟨w.heap.size, m, m⟩ _ (by simp [G.set]) (fun _ => rfl) (Nat.le_refl _) hmax)
/-- append, whatever is appended. -/
theorem dok_appendG (hg : Good g st w) (ht : RelT g n t a) {te : TypeId} {ti : TI} (hT : TIok P te ti) {x y : Operand} {ts : Array TypeId} (ho : o.op = .call { callee := .builtin .append, args := #[x, y], argTypes := ts }) {e : El} (he : ti.el = some e) {z : List T} (hz : ti.zero = some z) {m : List (ty e)} {news : List Value}
    (n1 : news.length = m.length * sz e) (n2 : ∀ u ∈ news, u.oneCell' = true) (n3 : ∀ (j : Nat) (u : T) (y : Value), (encs e m)[j]? = some u → news[j]? = some y → R g u y)
    (hnone : m = [] → ∀ A s c, s ≤ c → (Builtin.append_ ts o.type #[.slice A s c, a.eval y]).run P w = .ok (.slice A s c) w)
    (hnew : ∀ (ie : TypeInfo) (xz : Value), P.info? te = some ie → ie.zero = some xz → ∀ (l : List (ty e)) A c olds, Src g w e l A olds → (A = none → c = 0) → c < l.length + m.length → (l.length + m.length) * ti.bytes ≤ 140737488355328 → (Builtin.append_ ts o.type #[.slice A l.length c, a.eval y]).run P w = .ok (.slice (some ⟨w.heap.size, 0, none⟩) (l.length + m.length) (grownCap w (l.length + m.length) c te)) (w.drew.alloc (.cells (olds.toArray ++ news.toArray ++ Builtin.zeroCells xz.cells (grownCap w (l.length + m.length) c te - (l.length + m.length))) te)))
    (hin : ∀ (w' : World) (ie : TypeInfo), P.info? te = some ie → ∀ b q s c, s + m.length ≤ c → (storeCells ⟨b, q + s * ie.size, none⟩ news 0).run P w = .ok () w' → (Builtin.append_ ts o.type #[.slice (some ⟨b, q, none⟩) s c, a.eval y]).run P w = .ok (.slice (some ⟨b, q, none⟩) (s + m.length) c) w')
    (h : dappendL ti e st (ev t x) m K) : DOk P o a g st w K X := by
  unfold dappendL at h
  obtain ⟨hse, hb0⟩ := hT.el e he
  obtain ⟨ie, hi, hi', _⟩ := hT.info
  have hR := ht.ev x
  generalize hv : ev t x = xv at hR h
  generalize hex : a.eval x = ex at hR
  split at h
  · obtain ⟨hroom, hK⟩ := h
    cases hR with
    | nil A =>
      by_cases hm : m = []
      · subst hm
        intro K' Q' hK' _
        unfold Oper.wp
        rw [execOp_append (w' := w) (v := .slice A 0 0) ho (by rw [hex]; exact hnone rfl A _ _ (Nat.le_refl _))]
        obtain ⟨k1, k2, k3⟩ := good_put (st' := st ++ [some (.arr 0 e [])]) (k := st.length) (v := 0) (o' := .arr 0 e []) (oi := ⟨0, 0, 0⟩) (w' := w) hg push_at (Nat.le_refl _) (by simp) rfl (.inl (no_new hg)) (fun u oi hu => by rw [no_new hg] at hu; cases hu) ⟨rfl, Nat.le_refl _, Nat.zero_le _⟩
          (fun h => absurd ⟨rfl, rfl⟩ h) rfl rfl rfl (Nat.le_refl _) (fun _ _ _ => rfl) (fun h => absurd ⟨rfl, rfl⟩ h) (fun o ho => by rw [List.getElem?_eq_none (Nat.le_refl _)] at ho; cases ho)
        exact hK' _ _ _ _ _ hK k1 ⟨k3, set_hid (.inr rfl)⟩ k2 (.oa e st.length 0 ⟨0, 0, 0⟩ A (by simp [G.set]) (fun h => absurd rfl h) (Nat.le_refl _) (Nat.zero_le _))
      · have hml : 0 < m.length := List.length_pos_iff.2 hm
        exact dok_growX (l := []) (olds := []) (A := A) (c := 0) hg hT ho he hz Src.nil n1 n2 n3 (by simpa using hml) (by simpa using hroom) (fun ie xz hi hxz => by rw [hex]; exact hnew ie xz hi hxz [] A 0 [] Src.nil (fun _ => rfl) (by simpa using hml) (by simpa using hroom)) push_at (Nat.le_refl _) (.inr rfl) (by simp) (no_new hg) (fun u oi hu => by rw [no_new hg] at hu; cases hu) (fun o ho => by rw [List.getElem?_eq_none (Nat.le_refl _)] at ho; cases ho) hK
  · rename_i e' l
    split at h
    case isFalse => exact h.elim
    rename_i he'
    subst he'
    obtain ⟨hml, hroom, hK⟩ := h
    obtain ⟨l2, A, c, olds, hl2, hxv, hsrcx⟩ := src_ok (e := e') (K := fun l2 => l2 = l) hg (x := ex) (v := .sl true e' l) hR (by simp [elems, asKind])
    subst hl2
    obtain ⟨A', c', hs', _, _, hfull⟩ := R_slshape hR
    rw [hxv] at hs'
    simp only [Value.slice.injEq, true_and] at hs'
    obtain ⟨rfl, rfl⟩ := hs'
    exact dok_growX (A := A) (c := c) hg hT ho he hz hsrcx n1 n2 n3 (by rw [hfull rfl]; omega) hroom (fun ie xz hi hxz => by rw [hex, hxv]; exact hnew ie xz hi hxz _ A _ olds hsrcx (fun hn => by rw [hfull rfl]; exact hsrcx.none_ hn) (by rw [hfull rfl]; omega) hroom) push_at (Nat.le_refl _) (.inr rfl) (by simp) (no_new hg) (fun u oi hu => by rw [no_new hg] at hu; cases hu) (fun o ho => by rw [List.getElem?_eq_none (Nat.le_refl _)] at ho; cases ho) hK
  · rename_i e' k ver
    split at h
    case isFalse => exact h.elim
    rename_i he'
    subst he'
    split at h
    case h_2 => exact h.elim
    rename_i l hl
    obtain ⟨hroom, hK⟩ := h
    have hlive := arrOf_some hl
    have hkl : k < st.length := (List.getElem?_eq_some_iff.1 hlive).1
    obtain ⟨l2, A, c, olds, hl2, hxv, hsrcx⟩ := src_ok (e := e') (K := fun l2 => l2 = l) hg (x := ex) (v := .oa e' k ver) hR (by simp [elems, hl])
    subst hl2
    have hnewv : g.ob k (ver + 1) = none := by
      cases hh : g.ob k (ver + 1) with
      | none => rfl
      | some oi => have := old_ver hg hlive hh; simp only [obVer] at this; omega
    have hver : ∀ u oi, g.ob k u = some oi → u ≤ ver + 1 := fun u oi hh => by have := old_ver hg hlive hh; simp only [obVer] at this; omega
    cases hR with
    | oa _ _ _ oi A' p1 p2 p3 p4 =>
    simp only [Value.slice.injEq] at hxv
    obtain ⟨rfl, hlen, rfl⟩ := hxv
    obtain ⟨oi', q1, q2, q3, q4, q5⟩ := hg.arr hlive
    rw [p1] at q1
    injection q1 with q1
    subst q1
    by_cases hm : m = []
    · subst hm
      intro K' Q' hK' _
      unfold Oper.wp
      rw [execOp_append (w' := w) (v := .slice A' oi.len oi.cap) ho (by rw [hex]; exact hnone rfl A' _ _ p3)]
      obtain ⟨k1, k2, k3⟩ := good_put (st' := st.set k (some (.arr (ver + 1) e' (l2 ++ [])))) (k := k) (v := ver + 1) (o' := .arr (ver + 1) e' (l2 ++ [])) (oi := oi) (w' := w) hg (set_at hkl) (by omega) (by simp) rfl (.inl hnewv) hver ⟨by simpa using q2, q3, q4⟩
        (fun hn => .inr ⟨_, hlive, by
          refine blk_of p1 ?_
          simpa [isArr] using hn⟩) rfl rfl rfl (Nat.le_refl _) (fun _ _ _ => rfl) (fun hn => by
          obtain ⟨_, blk, E, fr, b1, b2, b3, b4⟩ := q5 (by simpa [isArr] using hn)
          exact ⟨blk, E, fr, b1, b2, by simpa [obCells] using b3, b4⟩) (fun o ho => by
          rw [hlive] at ho; simp only [Option.some.injEq] at ho; subst ho; exact ⟨_, _, rfl⟩)
      exact hK' _ _ _ _ _ hK k1 ⟨k3, set_hid (.inl ⟨_, hlive⟩)⟩ k2 (.oa e' k _ oi A' (by simp [G.set]) p2 p3 p4)
    · have hml : 0 < m.length := List.length_pos_iff.2 hm
      have hcap0 : A' = none → oi.cap = 0 := fun hn => by
        by_cases hc0 : oi.cap = 0
        · exact hc0
        · have := p2 hc0; rw [hn] at this; cases this
      by_cases hc : oi.cap < l2.length + m.length
      · exact dok_growX (A := A') hg hT ho he hz hsrcx n1 n2 n3 hc hroom (fun ie xz hi hxz => by rw [hex, q2]; exact hnew ie xz hi hxz _ A' _ olds hsrcx hcap0 hc hroom) (set_at hkl) (by omega) (.inl ⟨_, hlive⟩) (by simp) hnewv hver (fun o ho => by
          rw [hlive] at ho; simp only [Option.some.injEq] at ho; exact ⟨_, _, ho.symm⟩) hK
      · have hc0 : oi.cap ≠ 0 := by omega
        have hA := p2 hc0
        subst hA
        obtain ⟨hro, blk, E, fr, b1, b2, b3, b4⟩ := q5 hc0
        have hcap : (l2.length + m.length) * sz e' ≤ oi.cap * sz e' := Nat.mul_le_mul_right _ (by omega)
        rw [Nat.add_mul] at hcap
        obtain ⟨w', blk', c1, c2, c3, c4, c5, c6, c7, c8, c9⟩ := run_storeRow (P := P) oi.b (0 + l2.length * ie.size) news 0 w blk E fr b1 b2 (by rw [n1, hi', ← hse]; omega) n2
        intro K' Q' hK' _
        unfold Oper.wp
        rw [execOp_append ho (by rw [hex, q2]; exact hin w' ie hi oi.b 0 l2.length oi.cap (by omega) c1)]
        obtain ⟨k1, k2, k3⟩ := good_put (st' := st.set k (some (.arr (ver + 1) e' (l2 ++ m)))) (k := k) (v := ver + 1) (o' := .arr (ver + 1) e' (l2 ++ m)) (oi := ⟨oi.b, l2.length + m.length, oi.cap⟩) (w' := w') hg (set_at hkl) (by omega) (by simp) rfl (.inl hnewv) hver ⟨by simp, by simp only; omega, q4⟩
          (fun _ => .inr ⟨_, hlive, (blk_of p1 (by simp [hc0]) : _ = some oi.b)⟩) c7 c8 c9 (by omega) (fun b _ hb => c5 b fun e => hb _ hlive (by rw [blk_of p1 (by simp [hc0]), e])) (fun _ => ⟨blk', E, fr, c2, by rw [c3]; exact b2, ⟨by simp only [obCells]; rw [encs_len, List.length_append, Nat.add_mul, c3]; omega, fun j u hj => by
            simp only [obCells] at hj
            have hb := c4 j
            simp only [Nat.zero_add, Nat.add_zero, n1, hi', ← hse] at hb
            rw [encs_append] at hj
            by_cases ej : j < (encs e' l2).length
            · rw [List.getElem?_append_left ej] at hj
              rw [encs_len] at ej
              rw [if_neg (by omega)] at hb
              obtain ⟨z, z1, z2, z3⟩ := b3.at_ _ u hj
              exact ⟨z, by rw [hb]; exact z1, z2, z3⟩
            · have hjl := (List.getElem?_eq_some_iff.1 hj).1
              rw [List.getElem?_append_right (by omega)] at hj
              rw [encs_len] at ej hj
              simp only [List.length_append, encs_len] at hjl
              rw [if_pos (by omega)] at hb
              have hlt2 : j - l2.length * sz e' < news.length := by rw [n1]; omega
              exact ⟨news[j - l2.length * sz e'], by rw [hb]; exact List.getElem?_eq_getElem hlt2, n2 _ (List.getElem_mem hlt2), n3 _ u _ hj (List.getElem?_eq_getElem hlt2)⟩⟩, by rw [c3]; exact b4⟩) (fun o ho => by
            rw [hlive] at ho; simp only [Option.some.injEq] at ho; subst ho; exact ⟨_, _, rfl⟩)
        exact hK' _ _ _ _ _ hK k1 ⟨k3, set_hid (.inl ⟨_, hlive⟩)⟩ k2 (.oa e' k _ ⟨oi.b, l2.length + m.length, oi.cap⟩ _ (by simp [G.set]) (fun _ => rfl) (by simp only; omega) q4)
  · exact h.elim
theorem dok_append (hD : TDok P D) (hg : Good g st w) (ht : RelT g n t a) {T0 : TypeId} {x y : Operand} (ho : o.op = .call { callee := .builtin .append, args := #[x, y], argTypes := #[T0, T0] }) {te : TI} (hte : elemOf D T0 = some te) (hz : te.zero.isSome = true) (h : dappend te st (ev t x) (ev t y) K) : DOk P o a g st w K X := by
  unfold elemOf at hte
  split at hte
  case h_2 => cases hte
  rename_i ti hti
  split at hte
  case h_2 => cases hte
  rename_i t' hs
  have hu := slice_under (hD _ _ hti) hs
  have hT := hD _ _ hte
  obtain ⟨z, hz⟩ := Option.isSome_iff_exists.1 hz
  unfold dappend at h
  split at h
  case h_2 => exact h.elim
  rename_i e he
  obtain ⟨hse, hb0⟩ := hT.el e he
  obtain ⟨i0, hi0, hi0', hby, _⟩ := hT.info
  obtain ⟨m, B, cB, news, h, hyv, hsrc⟩ := src_ok hg (ht.ev y) h
  have h : (m = [] ∧ isFull (ev t x) = true ∧ K (ev t x) st) ∨ dappendL te e st (ev t x) m K := by
    split at h
    · rename_i hf
      rw [Bool.and_eq_true] at hf
      by_cases hm : m.length = 0
      · rw [decide_eq_true hm, cond_true] at h
        exact .inl ⟨List.eq_nil_of_length_eq_zero hm, hf.1, h⟩
      · rw [decide_eq_false hm, cond_false] at h
        exact .inr h
    · exact .inr h
  rcases h with ⟨hm, hf, hK⟩ | h
  · have hR := ht.ev x
    generalize hxv : ev t x = xv at hR hf hK
    unfold isFull at hf
    split at hf
    case h_2 => cases hf
    rename_i e' l
    obtain ⟨A', c, hx, hlc, _⟩ := R_slshape hR
    refine dok_val hg (execOp_append (w' := w) ho ?_) hR hK
    rw [hx, hyv, hm]
    exact run_append_none hu hi0 A' B _ _ _ hlc
  refine dok_appendG hg ht hT ho he hz hsrc.len hsrc.one hsrc.val (fun hm A s c hc => ?_) (fun ie xz hi hxz l A c olds h1 hA hc hroom => ?_) (fun w' ie hi b q s c hc hst => ?_) h
  · rw [hyv, hm]
    exact run_append_none hu hi0 A B _ _ _ hc
  · rw [hi0] at hi
    injection hi with hi
    subst hi
    rw [hyv]
    have h63 : l.length + m.length ≤ maxLen := by
      have : l.length + m.length ≤ (l.length + m.length) * te.bytes := Nat.le_mul_of_pos_right _ hb0
      simp only [maxLen]; omega
    exact run_append_new (P := P) (w := w) (ty := o.type) hu hi0 hxz A B l.length c m.length cB olds news (by rw [h1.len, hi0', hse]) (fun e => ⟨h1.none_ e, hA e⟩) h1.cell (by rw [hsrc.len, hi0', hse]) hsrc.none_ hsrc.cell hc h63 (by rw [hby]; exact hroom)
  · rw [hi0] at hi
    injection hi with hi
    subst hi
    rw [hyv]
    cases B with
    | none =>
      have hm := hsrc.none_ rfl
      have hn : news = [] := List.eq_nil_of_length_eq_zero (by rw [hsrc.len, hm, Nat.zero_mul])
      subst hn
      simp only [storeCells, Sem.run_pure, Result.ok.injEq, true_and] at hst
      subst hst
      rw [hm]
      exact run_append_none hu hi0 _ none _ _ _ (by omega)
    | some B => exact run_append_in (w' := w') hu hi0 b q s c m.length cB B news (by rw [hsrc.len, hi0', hse]) (hsrc.cell B rfl) hc hst
theorem dok_appendS (hD : TDok P D) (hg : Good g st w) (ht : RelT g n t a) {T0 T1 : TypeId} {x y : Operand} (ho : o.op = .call { callee := .builtin .append, args := #[x, y], argTypes := #[T0, T1] }) {te ti1 : TI} (hte : elemOf D T0 = some te) (hti1 : tyOf D T1 = some ti1) (hs1 : ti1.srt = .string) (hz : te.zero.isSome = true) {b : ByteArray} (hyv : ev t y = .str b) (h : dappendS te st (ev t x) b K) : DOk P o a g st w K X := by
  unfold elemOf at hte
  split at hte
  case h_2 => cases hte
  rename_i ti hti
  split at hte
  case h_2 => cases hte
  rename_i t' hs
  have hu := slice_under (hD _ _ hti) hs
  have hu1 := str_under (hD _ _ hti1) hs1
  have hT := hD _ _ hte
  obtain ⟨z, hz⟩ := Option.isSome_iff_exists.1 hz
  unfold dappendS at h
  split at h
  case h_2 => exact h.elim
  rename_i e he
  split at h
  case h_2 => exact h.elim
  rename_i f hf
  obtain ⟨hse, hb0⟩ := hT.el e he
  obtain ⟨i0, hi0, hi0', hby, _⟩ := hT.info
  have hey : a.eval y = .string b := by
    have := ht.ev y
    rw [hyv] at this
    generalize a.eval y = q at this
    cases this; rfl
  have hmap := u8of_ok hf (strB b)
  have hml : (f (strB b)).length = b.size := by
    have := congrArg List.length hmap
    simp only [List.length_map] at this
    rw [this]
    simp [strB]
  have henc : encs e (f (strB b)) = (strB b).map (T.int .u8) := by
    unfold encs
    rw [hmap]
    induction strB b with
    | nil => rfl
    | cons n r ih => simpa using ih
  have hsz : (f (strB b)).length * sz e = b.size := by rw [← encs_len, henc]; simp [strB]
  have hsc : (strCells b).length = b.size := strCells_length b
  have hval : ∀ (j : Nat) (u : T) (y : Value), (encs e (f (strB b)))[j]? = some u → (strCells b)[j]? = some y → R g u y := fun j u y hu hy => by
    rw [henc] at hu
    simp only [strB, strCells, List.getElem?_map, Option.map_eq_some_iff] at hu hy
    obtain ⟨_, ⟨q, hq, rfl⟩, rfl⟩ := hu
    obtain ⟨q', hq', rfl⟩ := hy
    rw [hq] at hq'
    injection hq' with hq'
    subst hq'
    exact .int _ _
  have hs1' : i0.size = 1 ∨ b.size = 0 := by
    rw [hi0', ← hse]
    rw [hml] at hsz
    by_cases h0 : b.size = 0
    · exact .inr h0
    · exact .inl (Nat.eq_of_mul_eq_mul_left (by omega : 0 < b.size) (by rw [hsz, Nat.mul_one]))
  have hfc : ∀ (w : World), (Builtin.firstCells i0.size b.size (.string b)).run P w = .ok (strCells b).toArray w := fun w => run_firstCells_string w i0.size b
  refine dok_appendG (news := strCells b) hg ht hT ho he hz (by rw [hsc, hsz]) (strCells_oneCell b) hval (fun hm A s c hc => ?_) (fun ie xz hi hxz l A c olds h1 hA hc hroom => ?_) (fun w' ie hi p q s c hc hst => ?_) h
  · have h0 : b.size = 0 := by rw [← hml, hm]; rfl
    have hfc' := hfc w
    rw [h0] at hfc'
    have hnil : strCells b = [] := List.eq_nil_of_length_eq_zero (by rw [hsc, h0])
    rw [hnil] at hfc'
    rw [hey]
    cases A <;> simp [Builtin.append_, run_underlying hu, run_underlying hu1, sizeOf, typeInfo, hi0, Builtin.lenOf, h0, hc, hfc', storeCells]
  · rw [hi0] at hi
    injection hi with hi
    subst hi
    rw [hey, hml] at *
    have h63' : ¬ (9223372036854775807 < ((l.length : Int) + (b.size : Int))) := by
      have : l.length + b.size ≤ (l.length + b.size) * te.bytes := Nat.le_mul_of_pos_right _ hb0
      omega
    have h48' : ¬ (281474976710656 < Builtin.nextslicecap (l.length + b.size) c * i0.bytes) := by
      rw [← hby] at hroom
      have := growslice_fits hc hroom; omega
    have hn : ¬ (l.length + b.size ≤ c) := by omega
    cases A with
    | some a0 =>
      have hfo := run_firstCells_some (P := P) w.drew i0.size l.length a0 l.length c olds (by rw [h1.len, hi0', hse]) (by simpa using h1.cell a0 rfl)
      simp [Builtin.append_, run_underlying hu, run_underlying hu1, sizeOf, typeInfo, zeroValue, hi0, hxz, Builtin.lenOf, hn, h63', h48', Question.forced, hfc, hfo, newRow, grownCap]
      congr 2
      apply Array.ext'
      simp [List.append_assoc]
    | none =>
      have hl0 := h1.none_ rfl
      have hc0 := hA rfl
      subst hc0
      have holds : olds = [] := List.eq_nil_of_length_eq_zero (by rw [h1.len, hl0, Nat.zero_mul])
      subst holds
      rw [hl0] at *
      simp only [Nat.zero_add] at *
      have h63'' : ¬ (9223372036854775807 < (b.size : Int)) := by omega
      have hbe : ¬ b = ByteArray.empty := by
        rintro rfl
        simp at hn
      simp [Builtin.append_, run_underlying hu, run_underlying hu1, sizeOf, typeInfo, zeroValue, hi0, hxz, Builtin.lenOf, hn, h63', h63'', h48', hbe, Question.forced, hfc, newRow, grownCap, run_firstCells_none]
  · rw [hi0] at hi
    injection hi with hi
    subst hi
    rw [hey, hml] at *
    simp [Builtin.append_, run_underlying hu, run_underlying hu1, sizeOf, typeInfo, hi0, Builtin.lenOf, hc, hfc, Addr.add_lit, hst]
theorem args1 {xs : Array Operand} {l : List T} {x : T} (h : xs.toList.map (ev t) = [x]) : ∃ y, xs = #[y] ∧ ev t y = x := by
  obtain ⟨xs⟩ := xs
  match xs, h with
  | [y], h => exact ⟨y, rfl, by simpa using h⟩
theorem args2 {xs : Array Operand} {x x' : T} (h : xs.toList.map (ev t) = [x, x']) : ∃ y y', xs = #[y, y'] ∧ ev t y = x ∧ ev t y' = x' := by
  obtain ⟨xs⟩ := xs
  match xs, h with
  | [y, y'], h => simp at h; exact ⟨y, y', rfl, h.1, h.2⟩
theorem lenT_ok (hg : Good g st w) {v : T} {x : Value} {K : Nat → Prop} (hR : R g v x) (h : lenT st v K) : ∃ m A c, K m ∧ x = .slice A m c := by
  unfold lenT at h
  split at h
  · cases hR with
    | nil A => exact ⟨0, A, 0, h, rfl⟩
  · cases hR with
    | sl _ _ l A c => exact ⟨_, A, c, h, rfl⟩
  · split at h
    case h_2 => exact h.elim
    rename_i l hl
    obtain ⟨_, _, s3⟩ := slice_shape hg hR
    obtain ⟨A, c, rfl, _⟩ := s3 _ _ _ l rfl hl
    exact ⟨_, A, c, h, rfl⟩
  · cases hR with
    | os _ _ _ _ m oi A c => exact ⟨_, A, c, h, rfl⟩
  · exact h.elim
theorem R_str {s : ByteArray} {x : Value} (h : R g (.str s) x) : x = .string s := by cases h; rfl
theorem dok_builtin (hD : TDok P D) (hg : Good g st w) (ht : RelT g n t a) {b : Builtin} {args : Array Operand} {ts : Array TypeId} (ho : o.op = .call { callee := .builtin b, args := args, argTypes := ts }) (h : dbuiltin D b ts.toList (args.toList.map (ev t)) st K) : DOk P o a g st w K X := by
  unfold dbuiltin at h
  split at h
  · rename_i T0 x hts hargs
    obtain ⟨y, rfl, rfl⟩ := args1 (l := []) hargs
    have hts' : ts = #[T0] := arr_of_list hts
    subst hts'
    split at h
    case h_2 => exact h.elim
    rename_i ti hti
    have key : (∀ s, a.eval y = .string s → ti.srt = .string → K (.int .i64 (s.size : Nat)) st → DOk P o a g st w K X) ∧ (∀ A m c e, a.eval y = .slice A m c → ti.srt = .slice e → K (.int .i64 (m : Nat)) st → DOk P o a g st w K X) := by
      refine ⟨fun s e hs hK => ?_, fun A m c e' e hs hK => ?_⟩
      · have hu := str_under (hD _ _ hti) hs
        exact dok_quiet hg (by simp [execOp, ho, resolve, invoke, builtin, Builtin.len_, e, quiet_bind, hu, goInt]) (.int _ _) hK
      · have hu := slice_under (hD _ _ hti) hs
        exact dok_quiet hg (by simp [execOp, ho, resolve, invoke, builtin, Builtin.len_, e, quiet_bind, hu, goInt]) (.int _ _) hK
    split at h
    · rename_i hs
      split at h
      case h_2 => exact h.elim
      rename_i s hv
      exact key.1 s (R_str (by have := ht.ev y; rw [hv] at this; exact this)) hs h
    · rename_i e' hs
      obtain ⟨m, A, c, hK, e⟩ := lenT_ok hg (ht.ev y) h
      exact key.2 A m c e' e hs hK
    · exact h.elim
  · rename_i T0 T1 x y hts hargs
    obtain ⟨x', y', rfl, rfl, rfl⟩ := args2 hargs
    have hts' : ts = #[T0, T1] := arr_of_list hts
    subst hts'
    split at h
    · rename_i hd
      have hd := of_decide_eq_true hd
      subst hd
      split at h
      case h_2 => exact h.elim
      rename_i te hte
      split at h
      case h_2 => exact h.elim
      rename_i z hz
      exact dok_append hD hg ht ho hte (by rw [hz]; rfl) h
    · split at h
      case h_2 => exact h.elim
      rename_i te ti1 hte hti1
      split at h
      · rename_i k k1 m hs1 hyv
        split at h
        case h_2 => exact h.elim
        rename_i e' l hxv
        exact dok_appendZ hD hg ht ho hte hti1 hs1 hxv hyv h
      · rename_i b hs1 hyv
        split at h
        case h_2 => exact h.elim
        rename_i z hz
        exact dok_appendS hD hg ht ho hte hti1 hs1 (by rw [hz]; rfl) hyv h
      · exact h.elim
  · rename_i T0 e' l hts hargs
    obtain ⟨y, rfl, hy⟩ := args1 (l := []) hargs
    have hts' : ts = #[T0] := arr_of_list hts
    subst hts'
    split at h
    case h_2 => exact h.elim
    rename_i ti hti
    split at h
    case h_2 => exact h.elim
    rename_i e hs
    have hu := slice_under (hD _ _ hti) hs
    have hR := ht.ev y
    rw [hy] at hR
    obtain ⟨A, c, hv, _, _, hf⟩ := R_slshape hR
    have hc := hf rfl
    subst hc
    exact dok_quiet hg (by simp [execOp, ho, resolve, invoke, builtin, Builtin.cap_, hv, quiet_bind, hu, goInt]) (.int _ _) h
  · rename_i T0 x hts hargs
    obtain ⟨y, rfl, rfl⟩ := args1 (l := []) hargs
    have hts' : ts = #[T0] := arr_of_list hts
    subst hts'
    split at h
    case h_2 => exact h.elim
    rename_i te hte
    exact dok_clear hD hg ht ho hte h
  · rename_i k p k' q hargs
    obtain ⟨x', y', rfl, h1, h2⟩ := args2 hargs
    have e1 := R_int (by have := ht.ev x'; rw [h1] at this; exact this)
    have e2 := R_int (by have := ht.ev y'; rw [h2] at this; exact this)
    exact dok_quiet hg (by simp [execOp, ho, resolve, invoke, builtin, Builtin.min_, Builtin.min2, e1, e2, quiet_bind]) (.int _ _) h
  · rename_i k p k' q hargs
    obtain ⟨x', y', rfl, h1, h2⟩ := args2 hargs
    have e1 := R_int (by have := ht.ev x'; rw [h1] at this; exact this)
    have e2 := R_int (by have := ht.ev y'; rw [h2] at this; exact this)
    exact dok_quiet hg (by simp [execOp, ho, resolve, invoke, builtin, Builtin.max_, Builtin.max2, e1, e2, quiet_bind]) (.int _ _) h
  · exact h.elim
end
end Go.Proofs.YtoclmkbjgmgekaaDoor

/-
  The machine over typed values, 11b: maps. No program in sight.
-/
namespace Go.Proofs.YtoclmkbjgmgekaaDoor
set_option linter.unusedVariables false
set_option linter.unusedSimpArgs false
set_option linter.unusedSectionVars false
open Go.RowKit
variable {P : Program} [Bd P]

/-- The entries of a map. -/
def Ents (e : El) (es : List MapEntry) (l : List (ty e)) : Prop := es.map (fun m => (m.key, m.val)) = l.map fun x => (tv ((enc e x).headD .undef), tv ((enc e x).getD 1 .undef))
theorem ents_of {e : El} {k v : T} (hs : mapSh e = some (k, v)) : ∀ (es : List MapEntry) (l : List (ty e)), es.flatMap (fun m => [m.key, m.val]) = l.flatMap (fun x => (enc e x).map tv) → Ents e es l
  | [], [], _ => rfl
  | [], x :: l, h => by obtain ⟨kc, vc, h1, _⟩ := mapSh_ok hs x; simp [h1] at h
  | m :: es, [], h => by simp at h
  | m :: es, x :: l, h => by
    obtain ⟨kc, vc, h1, _⟩ := mapSh_ok hs x
    simp only [List.flatMap_cons, h1, List.map_cons, List.map_nil, List.cons_append, List.nil_append, List.cons.injEq] at h
    obtain ⟨h2, h3, h4⟩ := h
    have := ents_of hs es l h4
    unfold Ents at this ⊢
    simp [h1, this, h2, h3]
theorem ents_flat {e : El} {k v : T} (hs : mapSh e = some (k, v)) : ∀ (es : List MapEntry) (l : List (ty e)), Ents e es l → es.flatMap (fun m => [m.key, m.val]) = l.flatMap (fun x => (enc e x).map tv)
  | [], [], _ => rfl
  | [], x :: l, h => by simp [Ents] at h
  | m :: es, [], h => by simp [Ents] at h
  | m :: es, x :: l, h => by
    obtain ⟨kc, vc, h1, _⟩ := mapSh_ok hs x
    unfold Ents at h
    simp only [List.map_cons, h1, List.cons.injEq, Prod.mk.injEq] at h
    obtain ⟨⟨h2, h3⟩, h4⟩ := h
    have := ents_flat hs es l h4
    simp [h1, this, h2, h3]
def keyD (ks : T) (d : TypeDesc) : Prop := match ks with
  | .int k _ => d = .int k
  | .str _ => d = .string
  | _ => False
theorem bytes_beqD (a b : ByteArray) : (a == b) = decide (a = b) := by
  rw [Bool.eq_iff_iff, decide_eq_true_eq]
  exact MapKept.bytes_beq a b
theorem sameNow_ok {ks kT kc : T} {d : TypeDesc} (hd : keyD ks d) (h1 : sameC ks kT = true) (h2 : sameC ks kc = true) : Instr.sameNow d (tv kT) (tv kc) = some (keyEq kT kc) := by
  cases ks <;> cases kT <;> simp [sameC] at h1 <;> cases kc <;> simp [sameC] at h2 <;> simp only [keyD] at hd <;> first | (exact hd.elim) | skip
  · subst hd; subst h1; subst h2
    simp only [tv, Instr.sameNow, if_true, keyEq]
    congr 1
  · subst hd
    simp only [tv, Instr.sameNow, keyEq, bytes_beqD]
theorem isKey_of {ks kT : T} {d : TypeDesc} (hd : keyD ks d) (h1 : sameC ks kT = true) : MapKept.IsKey d (tv kT) := by
  cases ks <;> cases kT <;> simp [sameC] at h1 <;> simp only [keyD] at hd <;> first | (exact hd.elim) | skip
  · subst hd; subst h1; rfl
  · subst hd; trivial
theorem keyEq_tv {ks kT kc : T} {d : TypeDesc} (hd : keyD ks d) (h1 : sameC ks kT = true) (h2 : sameC ks kc = true) (h : keyEq kT kc = true) : tv kc = tv kT := by
  cases ks <;> cases kT <;> simp [sameC] at h1 <;> cases kc <;> simp [sameC] at h2 <;> simp only [keyD] at hd <;> first | (exact hd.elim) | skip
  · subst h1; subst h2; simp [keyEq] at h; simp [tv, h]
  · simp [keyEq] at h; simp [tv, h]
theorem find_ok {e : El} {ks vs kT : T} {d : TypeDesc} (hs : mapSh e = some (ks, vs)) (hd : keyD ks d) (hk : sameC ks kT = true) : ∀ (l : List (ty e)) (es : List MapEntry) (i : Nat), Ents e es l →
    (Instr.findNow d (tv kT) es i = some none ∧ mfind e kT l = none ∧ ∀ y, mput e kT y l = l ++ [y]) ∨
    ∃ n x m, Instr.findNow d (tv kT) es i = some (some (i + n, tv ((enc e x).getD 1 .undef))) ∧ es[n]? = some m ∧ m.key = tv kT ∧ mfind e kT l = some x ∧ ∀ y, mput e kT y l = l.set n y
  | [], [], _, _ => .inl ⟨rfl, rfl, fun _ => rfl⟩
  | [], m :: es, _, h => by simp [Ents] at h
  | x :: l, [], _, h => by simp [Ents] at h
  | x :: l, m :: es, i, h => by
    obtain ⟨kc, vc, h1, h2, h3⟩ := mapSh_ok hs x
    have h' := h
    unfold Ents at h'
    simp only [List.map_cons, List.cons.injEq, Prod.mk.injEq] at h'
    obtain ⟨⟨q1, q2⟩, q3⟩ := h'
    rw [h1] at q1 q2
    simp only [List.headD_cons] at q1
    have hsame := sameNow_ok hd hk h2
    cases hq : keyEq kT kc with
    | true =>
      refine .inr ⟨0, x, m, ?_, rfl, by rw [q1]; exact keyEq_tv hd hk h2 hq, ?_, fun y => ?_⟩
      · simp only [Instr.findNow, q1, hsame, hq, q2, h1, Nat.add_zero]
      · simp only [mfind, h1, List.headD_cons, hq]
      · simp only [mput, h1, List.headD_cons, hq, List.set_cons_zero]
    | false =>
      rcases find_ok hs hd hk l es (i + 1) q3 with ⟨a1, a2, a3⟩ | ⟨n, x', m', a1, a2, a3, a4, a5⟩
      · refine .inl ⟨?_, ?_, fun y => ?_⟩
        · simp only [Instr.findNow, q1, hsame, hq, a1]
        · simp only [mfind, h1, List.headD_cons, hq, a2]
        · simp only [mput, h1, List.headD_cons, hq, a3, List.cons_append]
      · refine .inr ⟨n + 1, x', m', ?_, by simpa using a2, a3, ?_, fun y => ?_⟩
        · simp only [Instr.findNow, q1, hsame, hq, a1]
          congr 3; omega
        · simp only [mfind, h1, List.headD_cons, hq, a4]
        · simp only [mput, h1, List.headD_cons, hq, a5, List.set_cons_succ]

section
variable {P : Program} [Bd P] {D : TD} {g : G P} {st : St} {w : World} {n : Nat} {t : Tm} {a : Act} {o : Oper} {K X : Kn}
theorem R_tv {s c : T} {x : Value} (h : R g c x) (hs : sameC s c = true) : x = tv c := by
  cases s <;> cases c <;> simp [sameC] at hs <;> cases h <;> rfl
theorem tv_R {s c : T} (hs : sameC s c = true) : R g c (tv c) := by
  cases s <;> cases c <;> simp [sameC] at hs
  · exact .int _ _
  · exact .bool _
  · exact .str _
theorem map_at (hg : Good g st w) {m : T} {x : Value} {e : El} {q : Nat} {l : List (ty e)} {ks vs : T} (hs : mapSh e = some (ks, vs)) (hR : R g m x) (h : mapAt st e m = some (q, l)) :
    ∃ (oi : OI) (es : Array MapEntry) (clk : Nat), st[q]? = some (some (.cells [.ments e l])) ∧ g.ob q 0 = some oi ∧ x = .map (some oi.b) ∧ w.heap[oi.b]? = some (.map es clk) ∧ Ents e es.toList l := by
  unfold mapAt at h
  split at h
  case h_2 => cases h
  rename_i k
  split at h
  case h_2 => cases h
  rename_i e' l' hr
  split at h
  case isFalse => cases h
  rename_i he
  subst he
  simp only [Option.some.injEq, Prod.mk.injEq] at h
  obtain ⟨rfl, h2⟩ := h
  have h2 : l' = l := h2
  subst h2
  cases hR with
  | mp _ oi h1 =>
    obtain ⟨oi', o1, _, o3⟩ := hg.obj _ _ (rd_some.1 hr)
    have o1 : g.ob k 0 = some oi' := o1
    rw [h1] at o1
    injection o1 with o1
    subst o1
    rcases o3 with o3 | ⟨_, blk, E, fr, p1, _, p3, _⟩
    · cases o3.1
    cases hv : w.heap[oi.b]? with
    | none => rw [hv] at p1; cases p1
    | some ob =>
      rw [hv] at p1
      cases ob <;> simp only [isMp, meHead, view] at p1 <;> first | (cases p1; done) | skip
      rename_i es clk
      simp only [Option.some.injEq, Obj.cells.injEq] at p1
      obtain ⟨rfl, _⟩ := p1
      obtain ⟨y, y1, _, y3⟩ := p3.at_ 0 _ rfl
      simp [mapCells] at y1
      subst y1
      have hf : flatV e' l' = (es.toList.flatMap fun e => [e.key, e.val]).toArray := by
        generalize (es.toList.flatMap fun e => [e.key, e.val]).toArray = A at y3 ⊢
        cases y3
        rfl
      refine ⟨oi, es, clk, rd_some.1 hr, h1, rfl, hv, ents_of hs _ _ ?_⟩
      unfold flatV at hf
      have := congrArg Array.toList hf
      simpa using this.symm
theorem mapInfo_some (g : G P) (hD : TDok P D) {T0 : TypeId} {e : El} {ks z : T} (h : mapInfo D T0 = some (e, ks, z)) : ∃ (vs : T) (kt vt : TypeId) (d : TypeDesc) (x : Value), mapSh e = some (ks, vs) ∧ P.underlying T0 = some (.map kt vt) ∧ P.underlying kt = some d ∧ keyD ks d ∧ (∀ w : World, (zeroValue vt).run P w = .ok x w) ∧ sameC vs z = true ∧ x = tv z := by
  unfold mapInfo at h
  split at h
  case h_2 => cases h
  rename_i e' ti he hti
  split at h
  case h_2 => cases h
  rename_i ks' vs kt vt hsh hs
  split at h
  case h_2 => cases h
  rename_i tk tu htk htu
  split at h
  case h_2 => cases h
  rename_i z' hks hz
  split at h
  case h_2 => cases h
  rename_i hag hsz
  simp only [Option.some.injEq, Prod.mk.injEq] at h
  obtain ⟨rfl, rfl, rfl⟩ := h
  obtain ⟨d0, u1, _, u3⟩ := (hD _ _ hti).under
  rw [hs] at u3
  simp only [srtOk] at u3
  subst u3
  obtain ⟨d, k1, _, k3⟩ := (hD _ _ htk).under
  obtain ⟨i, x, z1, z2, z3⟩ := R_zero (P := P) (g := g) (hD _ _ htu) hz
  have hone := (hD _ _ htu).onec hag (by rw [hz]; rfl) i x z1 z2
  refine ⟨vs, kt, vt, d, x, hsh, u1, k1, ?_, fun w => quiet_run (by rw [quiet_zero, z1]; simp [z2]) w, hsz, ?_⟩
  · generalize hsr : tk.srt = sr at hks k3
    unfold keySrt at hks
    split at hks
    · have hks := of_decide_eq_true hks
      subst hks
      exact k3
    · exact k3
    · cases hks
  · rw [cells_one hone] at z3
    cases z3 with
    | ag _ _ r1 r2 _ =>
      exact R_tv (r2 0 _ x rfl rfl) hsz
theorem dok_makeMap (hg : Good g st w) {T0 : TypeId} {e : El} (ho : o.op = .makeMap T0 none) (hK : K (.mp st.length) (st ++ [some (.cells [.ments e []])])) : DOk P o a g st w K X := by
  have hrun : (execOp a.eval o).run P w = .ok (.value (.map (some w.heap.size))) (w.alloc (.map #[] 0)) := by
    simp only [execOp, ho, Instr.makeMap, newObj, Option.map_none, Sem.run_bind, Sem.run_pure, Result.andThen_ok]
    rfl
  intro K' Q' hK' _
  unfold Oper.wp
  rw [hrun]
  obtain ⟨k1, k2, k3⟩ := good_put (st' := st ++ [some (.cells [.ments e []])]) (k := st.length) (v := 0) (o' := .cells [.ments e []]) (oi := ⟨w.heap.size, 0, 0⟩) (w' := w.alloc (.map #[] 0)) hg push_at (Nat.le_refl _) (by simp) rfl (.inl (no_new hg)) (fun u oi hu => by rw [no_new hg] at hu; cases hu) trivial
    (fun _ => .inl (Nat.le_refl _)) rfl rfl rfl (by simp) (fun b hb _ => Below.heap_alloc w _ b hb) (fun _ => ⟨mapCells #[], 0, (0, 0), by rw [heap_alloc_new w _]; rfl, fun q _ h => absurd h.2 (Nat.not_lt_zero _), ⟨by simp [obCells, mapCells], fun j u hu => by
      match j, hu with
      | 0, hu => simp [obCells] at hu; subst hu; exact ⟨_, rfl, rfl, .me e []⟩
      | j + 1, hu => simp [obCells] at hu⟩, rfl⟩) (fun o ho => by rw [List.getElem?_eq_none (Nat.le_refl _)] at ho; cases ho)
  exact hK' _ _ _ _ _ hK k1 ⟨k3, set_hid (.inr rfl)⟩ k2 (.mp _ ⟨w.heap.size, 0, 0⟩ (by simp [G.set]))
theorem dok_lookup (hD : TDok P D) (hg : Good g st w) (ht : RelT g n t a) {T0 : TypeId} {m k : Operand} {ok : Bool} (ho : o.op = .lookup T0 m k ok) (h : dlookup D T0 (ev t m) (ev t k) ok st fun v => K v st) : DOk P o a g st w K X := by
  unfold dlookup at h
  split at h
  case h_2 => exact h.elim
  rename_i e ks z hi
  split at h
  case h_2 => exact h.elim
  rename_i q l hm hk
  obtain ⟨vs, kt, vt, d, x, hsh, u1, u2, u3, u4, u5, u6⟩ := mapInfo_some g hD hi
  obtain ⟨oi, es, clk, _, _, hx, hb, hE⟩ := map_at hg hsh (ht.ev m) hm
  have hkv := R_tv (ht.ev k) hk
  have hkey := isKey_of u3 hk
  have hmv : ∀ r : Option (ty e), R g (mval e z r) (match r with | some x => tv ((enc e x).getD 1 .undef) | none => tv z) := fun r => by
    cases r with
    | none => cases vs <;> cases z <;> simp [sameC] at u5 <;> simp only [mval, tv] <;> first | exact .int _ _ | exact .bool _ | exact .str _
    | some x =>
      obtain ⟨kc, vc, h1, _, h3⟩ := mapSh_ok hsh x
      have e1 : (enc e x).getD 1 .undef = vc := by rw [h1]; rfl
      simp only [e1]
      cases vs <;> cases z <;> simp [sameC] at u5 <;> cases vc <;> simp [sameC] at h3 <;> simp only [mval, e1, tv, tBool, tStr, tInt]
      · subst u5; subst h3; exact .int _ _
      · exact .bool _
      · exact .str _
  have hck : (Instr.checkKey es.isEmpty 10000 kt (a.eval k)).run P w = .ok () w := by rw [hkv]; exact MapKept.run_checkKey u2 hkey _ _
  have hrun : (execOp a.eval o).run P w = .ok (.value (match ok with
      | true => .tuple #[(match mfind e (ev t k) l with | some x => tv ((enc e x).getD 1 .undef) | none => tv z), .bool (mfind e (ev t k) l).isSome]
      | false => (match mfind e (ev t k) l with | some x => tv ((enc e x).getD 1 .undef) | none => tv z))) w := by
    rcases find_ok hsh u3 hk l es.toList 0 hE with ⟨a1, a2, _⟩ | ⟨j, y, m', a1, _, _, a4, _⟩
    · have hf : (Instr.findKey kt (a.eval k) es.toList).run P w = .ok none w := by rw [hkv]; exact MapKept.run_findKey u2 a1
      cases ok <;> simp [execOp, ho, Instr.lookup, run_underlying u1, hx, MapKept.run_getObj_map hb, hck, hf, u4, a2, u6, Result.andThen]
    · have hf : (Instr.findKey kt (a.eval k) es.toList).run P w = .ok (some (0 + j, tv ((enc e y).getD 1 .undef))) w := by rw [hkv]; exact MapKept.run_findKey u2 a1
      cases ok <;> simp [execOp, ho, Instr.lookup, run_underlying u1, hx, MapKept.run_getObj_map hb, hck, hf, a4, Result.andThen]
  split at h
  · refine dok_val hg hrun (.tu _ _ rfl fun i c y hc hy => ?_) h
    match i, hc, hy with
    | 0, hc, hy => simp at hc hy; subst hc; subst hy; exact hmv _
    | 1, hc, hy => simp at hc hy; subst hc; subst hy; exact .bool _
    | i + 2, hc, hy => simp at hc
  · exact dok_val hg hrun (hmv _) h
theorem wk_same {s c u : T} (h : Wk c u) (hs : sameC s u = true) : c = u := by
  cases h with
  | refl => rfl
  | sl => cases s <;> simp [sameC] at hs
  | nil => cases s <;> simp [sameC] at hs
theorem dok_mapUpdate (hD : TDok P D) (hg : Good g st w) (ht : RelT g n t a) {T0 : TypeId} {m k v : Operand} (ho : o.op = .mapUpdate T0 m k v ∨ o.op = .insert T0 m k v) (h : dmapUpdate D T0 (ev t m) (ev t k) (ev t v) st fun s => K .undef s) : DOk P o a g st w K X := by
  unfold dmapUpdate at h
  split at h
  case h_2 => exact h.elim
  rename_i e ks z hi
  split at h
  case h_2 => exact h.elim
  rename_i q l y hm hk hy
  obtain ⟨vs, kt, vt, d, x, hsh, u1, u2, u3, u4, u5, u6⟩ := mapInfo_some g hD hi
  obtain ⟨oi, es, clk, hst, hoi, hx, hb, hE⟩ := map_at hg hsh (ht.ev m) hm
  have hkv := R_tv (ht.ev k) hk
  have hkey := isKey_of u3 hk
  obtain ⟨kc, vc, y1, y2, y3⟩ := mapSh_ok hsh y
  obtain ⟨_, hdec⟩ := dec_wk e _ y hy
  have hkc : ev t k = kc := by
    obtain ⟨c, c1, c2⟩ := hdec 0 kc (by rw [y1]; rfl)
    simp at c1; subst c1
    exact wk_same c2 y2
  have hvc : ev t v = vc := by
    obtain ⟨c, c1, c2⟩ := hdec 1 vc (by rw [y1]; rfl)
    simp at c1; subst c1
    exact wk_same c2 y3
  have hvv : a.eval v = tv vc := by rw [← hvc]; exact R_tv (ht.ev v) (by rw [hvc]; exact y3)
  have hck : (Instr.checkKey false 10000 kt (a.eval k)).run P w = .ok () w := by rw [hkv]; exact MapKept.run_checkKey u2 hkey _ _
  have hkl : q < st.length := (List.getElem?_eq_some_iff.1 hst).1
  have key : ∃ es' clk', (execOp a.eval o).run P w = .ok .skip { w with heap := w.heap.setIfInBounds oi.b (.map es' clk') } ∧ Ents e es'.toList (mput e (ev t k) y l) := by
    rcases find_ok hsh u3 hk l es.toList 0 hE with ⟨a1, a2, a3⟩ | ⟨j, x', m', a1, b2, b3, a4, a5⟩
    · have hf : (Instr.findKey kt (a.eval k) es.toList).run P w = .ok none w := by rw [hkv]; exact MapKept.run_findKey u2 a1
      refine ⟨es.push { key := a.eval k, val := a.eval v, born := clk }, clk + 1, ?_, ?_⟩
      · rcases ho with ho | ho <;> simp [execOp, ho, Instr.mapUpdate, run_underlying u1, hx, MapKept.run_getObj_map hb, hck, hf, MapKept.run_setObj_map _ hb, Result.andThen]
      · rw [a3 y]
        unfold Ents at hE ⊢
        simp [hE, y1, hkv, hkc, hvv]
    · have hf : (Instr.findKey kt (a.eval k) es.toList).run P w = .ok (some (0 + j, tv ((enc e x').getD 1 .undef))) w := by rw [hkv]; exact MapKept.run_findKey u2 a1
      have hj : es[j]? = some m' := by simpa using b2
      have hstay : (Instr.keyThatStays m'.key (a.eval k)).run P w = .ok (a.eval k) w := by
        rw [b3, hkv]; exact MapKept.run_keyThatStays hkey
      refine ⟨es.modify j fun e => { e with key := a.eval k, val := a.eval v }, clk, ?_, ?_⟩
      · rcases ho with ho | ho <;> simp [execOp, ho, Instr.mapUpdate, run_underlying u1, hx, MapKept.run_getObj_map hb, hck, hf, hj, hstay, MapKept.run_setObj_map _ hb, Result.andThen]
      · rw [a5 y]
        unfold Ents at hE ⊢
        apply List.ext_getElem?
        intro i
        have hi := congrArg (·[i]?) hE
        simp only [List.getElem?_map, Array.getElem?_toList, Array.getElem?_modify, List.getElem?_set] at hi ⊢
        by_cases e1 : j = i
        · subst e1
          rw [if_pos rfl, hj]
          rw [hj] at hi
          have hlt : j < l.length := by
            rcases Nat.lt_or_ge j l.length with hl | hl
            · exact hl
            · rw [List.getElem?_eq_none hl] at hi; simp at hi
          simp [hlt, y1, hkv, hkc, hvv]
        · rw [if_neg e1, if_neg e1]
          exact hi
  obtain ⟨es', clk', hrun, hE'⟩ := key
  intro K' Q' hK' _
  unfold Oper.wp
  rw [hrun]
  have hlt : oi.b < w.heap.size := (Array.getElem?_eq_some_iff.1 hb).1
  have hn : ¬ (isArr (.cells [.ments e l]) = true ∧ oi.cap = 0) := by simp [isArr]
  obtain ⟨k1, k2, k3⟩ := good_put (st' := st.set q (some (.cells [.ments e (mput e (ev t k) y l)]))) (k := q) (v := 0) (o' := .cells [.ments e (mput e (ev t k) y l)]) (oi := oi) (w' := { w with heap := w.heap.setIfInBounds oi.b (.map es' clk') }) hg (set_at hkl) (by omega) (by simp) rfl (.inr hoi) (fun u oi' hu => by have := old_ver hg hst hu; simpa [obVer] using this) trivial
    (fun _ => .inr ⟨_, hst, blk_of hoi hn⟩) rfl rfl rfl (by simp) (fun b hb' hno => by
      have hne : oi.b ≠ b := fun e1 => hno _ hst (by rw [blk_of hoi hn, e1])
      simp [Array.getElem?_setIfInBounds_ne hne]) (fun _ => ⟨mapCells es', 0, (0, 0), by simp [hlt, isMp, meHead, view], fun q _ h => absurd h.2 (Nat.not_lt_zero _), ⟨by simp [obCells, mapCells], fun j u hu => by
      match j, hu with
      | 0, hu =>
        simp [obCells] at hu
        subst hu
        refine ⟨.iface 0 (.tuple (es'.toList.flatMap fun e => [e.key, e.val]).toArray), rfl, rfl, ?_⟩
        rw [ents_flat hsh _ _ hE']
        exact .me e _
      | j + 1, hu => simp [obCells] at hu⟩, rfl⟩) (fun o2 ho2 => by
      rw [hst] at ho2; simp only [Option.some.injEq] at ho2; subst ho2; exact ⟨_, rfl, rfl, hoi⟩)
  exact hK' _ _ _ _ _ h k1 ⟨k3, set_hid (.inl ⟨_, hst⟩)⟩ k2 (.undef _)
end
end Go.Proofs.YtoclmkbjgmgekaaDoor
