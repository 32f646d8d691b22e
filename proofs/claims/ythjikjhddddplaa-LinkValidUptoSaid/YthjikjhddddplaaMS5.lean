/-
  The machine over typed values, 9: literals, append. No program in sight.
-/
import Derived.Test.YthjikjhddddplaaMS4
namespace Go.Proofs.Ythjikjhddddplaa
set_option linter.unusedVariables false
set_option linter.unusedSimpArgs false
open Go.RowKit

section
variable {P : Program} {D : TD} {g : G} {st : St} {w : World} {n : Nat} {t : Tm} {a : Act} {o : Oper} {K X : Kn}

/-! ### Literals -/
theorem fill_ok {place : Nat → Option (Nat × Nat)} (ht : RelT g n t a) : ∀ (ps : List (Nat × Operand)) (cs cs' : List T) (xs : Array Value), R g (.ag cs) (.agg xs) → fillT place cs (ps.map fun p => (p.1, ev t p.2)) = some cs' →
    ∃ xs', Instr.fill place xs (ps.map fun p => (p.1, a.eval p.2)) = some xs' ∧ R g (.ag cs') (.agg xs') ∧ cs'.length = cs.length
  | [], cs, cs', xs, hR, h => by simp [fillT] at h; subst h; exact ⟨xs, rfl, hR, rfl⟩
  | (i, x) :: r, cs, cs', xs, hR, h => by
    simp only [List.map_cons, fillT] at h
    cases h1 : place i with
    | none => simp [h1] at h
    | some p =>
      obtain ⟨off, size⟩ := p
      cases h2 : cellsOf (ev t x) with
      | none => simp [h1, h2] at h
      | some zs =>
        simp only [h1, h2] at h
        split at h
        case h_2 => cases h
        rename_i hc
        have hc := of_decide_eq_true hc
        obtain ⟨k1, k2⟩ := R_cells (ht.ev x) h2
        cases hR with
        | ag _ _ r1 r2 r3 =>
          obtain ⟨f1, f2⟩ := foldl_arr off (a.eval x).cells xs (by omega)
          have hR' : R g (.ag (splice cs off zs)) (.agg ((a.eval x).cells.zipIdx.foldl (fun cs (p : Value × Nat) => cs.setIfInBounds (off + p.2) p.1) xs)) := by
            refine .ag _ _ (by rw [splice_length (by omega), f1, r1]) (fun j c y hj hy => ?_) (fun j y hy => ?_)
            · rw [splice_get (by omega)] at hj
              rw [f2 j, k1] at hy
              by_cases e : off ≤ j ∧ j < off + zs.length
              · rw [if_pos e] at hj hy
                obtain ⟨z, z1, _, z3⟩ := k2 _ c hj
                rw [z1] at hy; injection hy with hy; subst hy; exact z3
              · rw [if_neg e] at hj hy
                exact r2 _ _ _ hj hy
            · rw [f2 j, k1] at hy
              by_cases e : off ≤ j ∧ j < off + zs.length
              · rw [if_pos e] at hy
                obtain ⟨z, z1, z2, _⟩ := k2 (j - off) zs[j - off] (by simp)
                rw [z1] at hy; injection hy with hy; subst hy; exact z2
              · rw [if_neg e] at hy
                exact r3 _ _ hy
          obtain ⟨xs', g1, g2, g3⟩ := fill_ok ht r _ cs' _ hR' h
          refine ⟨xs', ?_, g2, by rw [g3, splice_length (by omega)]⟩
          simp only [List.map_cons, Instr.fill, h1]
          rw [if_neg (by simp; omega)]
          exact g1
theorem fill_congr {p q : Nat → Option (Nat × Nat)} : ∀ (ps : List (Nat × Value)) (xs : Array Value) (xs' : Array Value), (∀ i x, p i = some x → q i = some x) → Instr.fill p xs ps = some xs' → Instr.fill q xs ps = some xs'
  | [], xs, xs', _, h => h
  | (i, v) :: r, xs, xs', hpq, h => by
    simp only [Instr.fill] at h ⊢
    cases hp : p i with
    | none => simp [hp] at h
    | some x =>
      obtain ⟨off, size⟩ := x
      rw [hpq i _ hp]
      simp only [hp] at h ⊢
      split at h
      · cases h
      · rename_i hc
        rw [if_neg hc]
        exact fill_congr r _ xs' hpq h
theorem dok_build (hD : TDok P D) (hg : Good g st w) (ht : RelT g n t a) {T0 : TypeId} {parts : Array (Nat × Operand)} (ho : o.op = .build T0 parts)
    (h : dbuild D T0 (parts.toList.map fun p => (p.1, ev t p.2)) fun v => K v st) : DOk P o a g st w K X := by
  unfold dbuild at h
  split at h
  case h_2 => exact h.elim
  rename_i ti hti
  split at h
  case h_2 => exact h.elim
  rename_i z pl hag hz hpl
  split at h
  case h_2 => exact h.elim
  rename_i cs hcs
  obtain ⟨i, x, hi, hx, hR⟩ := R_zero (g := g) (hD _ _ hti) hz
  obtain ⟨xs', hf, hR', _⟩ := fill_ok ht parts.toList z cs x.cells hR hcs
  have hb : P.built T0 (parts.toList.map fun p => (p.1, a.eval p.2)) = some xs' := by
    obtain ⟨d, h1, h2, h3⟩ := (hD _ _ hti).under
    unfold Program.built
    unfold placesT at hpl
    split at hpl
    · rename_i fs hfs
      injection hpl with hpl
      subst hpl
      rw [hfs] at h3
      obtain ⟨fields, rfl, rfl, hall⟩ := h3
      simp only [h1, hi, hx]
      have hm : ∃ l, fields.toList.mapM (fun (f : Field) => (P.info? f.type).map fun i => (f.offset, i.size)) = some l ∧ ∀ (j : Nat) (f : Field), fields.toList[j]? = some f → ∃ i, P.info? f.type = some i ∧ l[j]? = some (f.offset, i.size) := by
        have hall' : ∀ f ∈ fields.toList, (P.info? f.type).isSome = true := fun f hf' => List.all_eq_true.1 hall f hf'
        generalize fields.toList = L at hall'
        induction L with
        | nil => exact ⟨[], rfl, by simp⟩
        | cons f r ih =>
          obtain ⟨l, l1, l2⟩ := ih fun f' hf' => hall' f' (by simp [hf'])
          obtain ⟨i, hi⟩ := Option.isSome_iff_exists.1 (hall' f (by simp))
          refine ⟨(f.offset, i.size) :: l, by simp [List.mapM_cons, hi, l1], fun j f' hj => ?_⟩
          cases j with
          | zero => simp at hj; subst hj; exact ⟨i, hi, rfl⟩
          | succ j => simp at hj; simpa using l2 j f' hj
      obtain ⟨l, l1, l2⟩ := hm
      simp only [l1]
      refine fill_congr _ _ _ (fun j p hp => ?_) hf
      simp only [List.getElem?_map] at hp
      cases hfj : fields.toList[j]? with
      | none => simp [hfj] at hp
      | some f =>
        simp only [hfj, Option.map_some] at hp
        split at hp
        case h_2 => cases hp
        rename_i te hte
        injection hp with hp
        subst hp
        obtain ⟨i', hi', hl⟩ := l2 j f hfj
        obtain ⟨i2, hi2, hs2, _⟩ := (hD _ _ hte).info
        rw [hi'] at hi2
        injection hi2 with hi2
        subst hi2
        rw [← hs2]
        simpa using hl
    · rename_i m e hfs
      split at hpl
      case h_2 => cases hpl
      rename_i te hte
      injection hpl with hpl
      subst hpl
      rw [hfs] at h3
      simp only [srtOk] at h3
      subst h3
      obtain ⟨i2, hi2, hs2, _⟩ := (hD _ _ hte).info
      simp only [h1, hi, hx, hi2, hs2]
      exact hf
    · cases hpl
  refine dok_val (x := .agg xs') hg ?_ hR' h
  have := run_build (P := P) w T0 (parts.map fun p => (p.1, a.eval p.2)) xs' (by simpa using hb)
  simp only [execOp, ho, Sem.run_bind, this, Result.andThen_ok, Sem.run_pure]

theorem repT_length (z : List T) : ∀ m, (repT z m).length = m * z.length
  | 0 => by simp [repT]
  | m + 1 => by simp [repT, repT_length z m, Nat.succ_mul, Nat.add_comm]
theorem repT_get (z : List T) : ∀ (len i : Nat), i < len * z.length → (repT z len)[i]? = z[i % z.length]?
  | 0, i, h => by simp at h
  | len + 1, i, h => by
    rw [repT]
    by_cases hi : i < z.length
    · rw [List.getElem?_append_left hi, Nat.mod_eq_of_lt hi]
    · rw [List.getElem?_append_right (by omega), repT_get z len _ (by rw [Nat.succ_mul] at h; omega)]
      rw [show i % z.length = (i - z.length) % z.length from Nat.mod_eq_sub_mod (by omega)]
theorem decs_ok (e : El) : ∀ (m : Nat) (cs : List T) (l : List (ty e)), cs.length = m * sz e → decs e m cs = some l → l.length = m ∧ ∀ (j : Nat) (u : T), (encs e l)[j]? = some u → ∃ c, cs[j]? = some c ∧ ∀ (g : G) (z : Value), R g c z → R g u z
  | 0, cs, l, _, h => by simp [decs] at h; subst h; simp [encs]
  | m + 1, cs, l, hl, h => by
    simp only [decs] at h
    split at h
    case h_2 => cases h
    rename_i x l' hx hl'
    injection h with h
    subst h
    obtain ⟨d1, d2⟩ := dec_ok e _ x hx
    obtain ⟨e1, e2⟩ := decs_ok e m _ l' (by rw [List.length_drop, hl, Nat.succ_mul]; omega) hl'
    refine ⟨by simp [e1], fun j u hj => ?_⟩
    rw [encs_cons] at hj
    by_cases hjs : j < sz e
    · rw [List.getElem?_append_left (by rw [enc_len]; exact hjs)] at hj
      obtain ⟨c, c1, c2⟩ := d2 j u hj
      rw [List.getElem?_take_of_lt hjs] at c1
      exact ⟨c, c1, c2⟩
    · rw [List.getElem?_append_right (by rw [enc_len]; omega), enc_len] at hj
      obtain ⟨c, c1, c2⟩ := e2 _ u hj
      rw [List.getElem?_drop, show sz e + (j - sz e) = j by omega] at c1
      exact ⟨c, c1, c2⟩
theorem dok_buildSlice (hD : TDok P D) (hg : Good g st w) (ht : RelT g n t a) {T0 : TypeId} {len : Nat} {parts : Array (Nat × Operand)} (ho : o.op = .buildSlice T0 len parts) (h : dbuildSlice D T0 len (parts.toList.map fun p => (p.1, ev t p.2)) fun v => K v st) : DOk P o a g st w K X := by
  have hparts : (parts.map fun p => (p.1, a.eval p.2)).toList = parts.toList.map fun p => (p.1, a.eval p.2) := by simp
  unfold dbuildSlice at h
  split at h
  · split at h
    case h_2 => exact h.elim
    rename_i hps hti
    rename_i ti
    split at h
    case h_2 => exact h.elim
    rename_i e hs
    have hu := slice_under (hD _ _ hti) hs
    obtain ⟨i, hi⟩ := slice_info (hD _ _ hti) hs
    have hp0 : parts.toList = [] := by simpa using hps
    have hrun : (execOp a.eval o).run P w = .ok (.value (.slice (some ⟨w.heap.size, 0, none⟩) 0 0)) (w.alloc (.cells #[] e)) := by
      have hsz : (sizeOf e).run P w = .ok i.size w := quiet_run (by rw [quiet_size, hi]; rfl) w
      have hun : (underlying T0).run P w = .ok (.slice e) w := quiet_run (by rw [quiet_under, hu]) w
      have eR : (Array.range 0).map (fun i => (#[] : Array Value)[i % (#[] : Array Value).size]!) = #[] := by simp
      simp only [execOp, ho, Instr.buildSlice, Sem.run_bind, hun, Result.andThen_ok, hsz]
      rw [if_neg (by omega)]
      simp only [Sem.run_bind, Sem.run_pure, Result.andThen_ok, hparts, hp0, Nat.zero_mul, if_true, List.map_nil, Instr.fill, eR]
      rfl
    intro K' Q' hK' _
    unfold Oper.wp
    rw [hrun]
    obtain ⟨k1, k2, k3⟩ := good_ro (cs := []) (blk := #[]) (E := e) (w' := w.alloc (.cells #[] e)) hg ⟨by simp, by simp⟩ rfl rfl rfl rfl
    exact hK' _ _ _ _ _ h k1 ⟨k3, fun _ _ _ => rfl⟩ k2 (.nil _)
  · rename_i m
    split at h
    case h_2 => exact h.elim
    rename_i ti hti
    split at h
    case h_2 => exact h.elim
    rename_i te' hs
    split at h
    case h_2 => exact h.elim
    rename_i te hte
    split at h
    case h_2 => exact h.elim
    rename_i z e hz he
    split at h
    case h_2 => exact h.elim
    rename_i hle
    have hle := of_decide_eq_true hle
    split at h
    case h_2 => exact h.elim
    rename_i cs hcs
    split at h
    case h_2 => exact h.elim
    rename_i l hl
    have hu := slice_under (hD _ _ hti) hs
    obtain ⟨ie, x, hi, hx, hR⟩ := R_zero (g := g) (hD _ _ hte) hz
    obtain ⟨ie', hi2, hi', _, hz4⟩ := (hD _ _ hte).info
    rw [hi] at hi2
    injection hi2 with hi2
    subst hi2
    rw [show Nat.succ m = m + 1 from rfl] at hcs hl hle ho
    obtain ⟨hse, _⟩ := (hD _ _ hte).el e he
    have hp := sz_pos e
    have hsize0 : te.size = te.size := rfl
    generalize hsize : te.size = size at hsize0 hcs hle hse hi' ⊢
    generalize hlen : m + 1 = len at *
    cases hR with
    | ag _ _ r1 r2 r3 =>
    have hzl : z.length = size := by
      rw [← hsize]; exact (hz4 z hz).2
    have hzs : x.cells.size = size := by omega
    let X : Array Value := (Array.range (len * size)).map (x.cells[· % x.cells.size]!)
    have hX : ∀ i, i < len * size → X[i]? = x.cells[i % size]? := by
      intro i hi
      have hm : i % size < x.cells.size := by rw [hzs]; exact Nat.mod_lt _ (by omega)
      simp only [X, Array.getElem?_map, Array.getElem?_range, if_pos hi, Option.map_some, hzs]
      simp [getElem!_def, hm]
    have hfl : (repT z len).length = len * size := by rw [repT_length, hzl]
    have hXs : X.size = len * size := by simp [X]
    have hR0 : R g (.ag (repT z len)) (.agg X) := by
      refine .ag _ _ (by rw [hfl, hXs]) (fun i c y hi hy => ?_) (fun i y hy => ?_)
      · have hlt : i < len * size := by rw [← hXs]; exact (Array.getElem?_eq_some_iff.1 hy).1
        rw [hX i hlt] at hy
        rw [repT_get z len i (by rw [hzl]; exact hlt), hzl] at hi
        exact r2 _ _ _ hi hy
      · have hlt : i < len * size := by rw [← hXs]; exact (Array.getElem?_eq_some_iff.1 hy).1
        rw [hX i hlt] at hy
        exact r3 _ _ hy
    obtain ⟨xs', hf, hR', hcl⟩ := fill_ok ht parts.toList _ cs X hR0 hcs
    have hrun : (execOp a.eval o).run P w = .ok (.value (.slice (some ⟨w.heap.size, 0, none⟩) len len)) (w.alloc (.cells xs' te')) := by
      have hsz : (sizeOf te').run P w = .ok size w := quiet_run (by rw [quiet_size, hi]; simp [hi']) w
      have hun : (underlying T0).run P w = .ok (.slice te') w := quiet_run (by rw [quiet_under, hu]) w
      have hz0 : (zeroValue te').run P w = .ok x w := quiet_run (by rw [quiet_zero, hi]; simp [hx]) w
      have hne : ¬ len * size = 0 := by
        have : 0 < len * size := Nat.mul_pos (by omega) (by omega)
        omega
      have eX : (Array.range (len * size)).map (fun i => x.cells[i % x.cells.size]!) = X := rfl
      simp only [execOp, ho, Instr.buildSlice, Sem.run_bind, hun, Result.andThen_ok, hsz]
      rw [if_neg (by omega)]
      simp only [Sem.run_bind, Sem.run_pure, Result.andThen_ok, hparts]
      rw [if_neg hne]
      simp only [Sem.run_bind, Sem.run_pure, Result.andThen_ok, hz0, eX, hf]
      rfl
    intro K' Q' hK' _
    unfold Oper.wp
    rw [hrun]
    obtain ⟨d1, d2⟩ := decs_ok e len cs l (by rw [hcl, hfl, hse]) hl
    cases hR' with
    | ag _ _ q1 q2 q3 =>
    have hcells : Cells g (encs e l) xs' := ⟨by rw [encs_len, d1, hse]; omega, fun j u hj => by
      obtain ⟨c, c1, c2⟩ := d2 j u hj
      have hlt : j < xs'.size := by rw [← q1]; exact (List.getElem?_eq_some_iff.1 c1).1
      exact ⟨xs'[j], Array.getElem?_eq_getElem hlt, q3 _ _ (Array.getElem?_eq_getElem hlt), c2 g _ (q2 _ _ _ c1 (Array.getElem?_eq_getElem hlt))⟩⟩
    obtain ⟨k1, k2, k3⟩ := good_ro (cs := encs e l) (blk := xs') (E := te') (w' := w.alloc (.cells xs' te')) hg hcells rfl rfl rfl rfl
    refine hK' _ _ _ _ _ h k1 ⟨k3, fun _ _ _ => rfl⟩ k2 ?_
    rw [← d1]
    refine .sl true e l _ _ (Nat.le_refl _) (by
      have : len ≤ len * size := Nat.le_mul_of_pos_right _ (by omega)
      simp only [maxLen]; omega) (fun _ => rfl) fun _ => ⟨w.heap.size, 0, encs e l, rfl, by simp, ?_⟩
    rw [List.drop_zero, List.take_of_length_le (by rw [encs_len]; exact Nat.le_refl _)]
end
end Go.Proofs.Ythjikjhddddplaa
