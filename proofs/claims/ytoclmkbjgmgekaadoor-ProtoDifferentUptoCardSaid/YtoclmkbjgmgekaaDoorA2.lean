import Derived.Test.YtoclmkbjgmgekaaDoorA1
import Derived.Laws.BytesArg
import Derived.Lib.AppendStr
/-
  The machine over typed values, 5: its operations are the model's: what only reckons. No program in sight.
-/
namespace Go.Proofs.YtoclmkbjgmgekaaDoor
set_option linter.unusedVariables false
set_option linter.unusedSimpArgs false
set_option linter.unusedSectionVars false
open Go.RowKit
variable {P : Program} [Bd P]

def srtOk (P : Program) (d : TypeDesc) : Srt → Prop
  | .slice e => d = .slice e ∧ (P.info? e).isSome = true
  | .array n e => d = .array n e
  | .struct fs => ∃ fields, d = .struct fields ∧ (fs = fields.toList.map fun f => (f.offset, f.type)) ∧ (fields.toList.all fun f => (P.info? f.type).isSome) = true
  | .string => d = .string
  | .int k => d = .int k
  | .bool => d = .bool
  | .iface => ∃ ms, d = .interface ms
  | .map k e => d = .map k e
  | .other => True
structure TIok (P : Program) (t : TypeId) (ti : TI) : Prop where
  under : ∃ d, P.underlying t = some d ∧ aggDesc d = ti.agg ∧ srtOk P d ti.srt
  info : ∃ i, P.info? t = some i ∧ i.size = ti.size ∧ i.bytes = ti.bytes ∧ ∀ z, ti.zero = some z → (∃ x, i.zero = some x ∧ cellsOf (tval x) = some (z.map unfp) ∧ cellW z t z.length = true) ∧ z.length = ti.size
  el : ∀ e, ti.el = some e → sz e = ti.size ∧ 0 < ti.bytes
  elt : ∀ e, ti.el = some e → elTy e t = true
  onec : ti.agg = false → ti.zero.isSome = true → ∀ i x, P.info? t = some i → i.zero = some x → x.oneCell' = true
  eqs : ∀ ks, ti.eqs = some ks → ∀ (xs ys : List T) (vs us : Array Value) (g : G P) (b : Bool), xs.length = ks.length → eqCells ks xs ys = some b → R g (.ag xs) (.agg vs) → R g (.ag ys) (.agg us) →
    quiet P (Op.equal t (.agg vs) (.agg us)) = some b ∧ P.eqGuardType P.depth t = false
abbrev TDok (P : Program) (D : TD) : Prop := ∀ t ti, tyOf D t = some ti → TIok P t ti

section
variable {P : Program} [Bd P] {D : TD} {g : G P} {st : St} {w : World} {n : Nat} {t : Tm} {a : Act} {o : Oper} {K X : Kn}

theorem R_tcell (v : Value) : R g (tcell v) v := by
  unfold tcell
  split
  · exact .nil none
  · exact .int _ _
  · exact .bool _
  · exact .str _
  · rename_i f xs ys
    split
    · rename_i h
      obtain ⟨h1, h2⟩ := h
      have e1 : xs = #[] := by simpa using h1
      have e2 : ys = #[] := by simpa using h2
      subst e1; subst e2
      exact R_fnT g f
    · exact .cst _
  · exact .cst _
theorem R_tval (v : Value) : R g (tval v) v := by
  unfold tval
  split
  · rename_i cs
    split
    · rename_i h
      refine .ag _ _ (by simp) (fun i c x hc hx => ?_) (fun i x hx => ?_)
      · simp only [List.getElem?_map, Array.getElem?_toList, hx, Option.map_some, Option.some.injEq] at hc
        rw [← hc]; exact R_tcell x
      · exact List.all_eq_true.1 h x (by simpa using Array.mem_of_getElem? hx)
    · exact .cst _
  · exact R_tcell v
theorem RelT.ev (h : RelT g n t a) (x : Operand) : R g (ev t x) (a.eval x) := by
  cases x with
  | tmp i => exact h.val i
  | const v => exact R_tval v
  | global g => exact .cst _
  | func f => exact R_fnT g f
theorem R_one {v : T} {x : Value} (h : R g v x) (hv : v.one = true) : x.oneCell' = true := by
  cases h with
  | cst v => exact hv
  | undef => simp [T.one] at hv
  | ag => simp [T.one] at hv
  | tu => simp [T.one] at hv
  | fp => simp [T.one] at hv
  | me => simp [T.one] at hv
  | _ => rfl
theorem R_cells {v : T} {x : Value} {cs : List T} (h : R g v x) (hc : cellsOf v = some cs) :
    x.cells.size = cs.length ∧ ∀ (i : Nat) (c : T), cs[i]? = some c → ∃ y, x.cells[i]? = some y ∧ y.oneCell' = true ∧ R g c y := by
  by_cases hv : v.one = true
  · have h1 := R_one h hv
    rw [cells_one h1]
    have : cs = [v] := by
      cases v <;> simp_all [cellsOf, T.one]
    subst this
    refine ⟨rfl, fun i c hi => ?_⟩
    cases i with
    | zero => simp at hi; subst hi; exact ⟨x, rfl, h1, h⟩
    | succ i => simp at hi
  · cases h with
    | ag cs' xs h1 h2 h3 =>
      simp only [cellsOf] at hc
      split at hc
      case h_1 => cases hc
      simp only [Option.some.injEq] at hc
      subst hc
      refine ⟨h1.symm, fun i c hi => ?_⟩
      have hlt : i < xs.size := by rw [← h1]; exact (List.getElem?_eq_some_iff.1 hi).1
      exact ⟨xs[i], by simp [Value.cells, hlt], h3 i _ (by simp [hlt]), h2 i c _ hi (by simp [hlt])⟩
    | _ => simp [cellsOf, hv] at hc
theorem R_ag_cells {v : T} {x : Value} {cs : List T} (h : R g v x) (hc : cellsOf v = some cs) : R g (.ag cs) (.agg x.cells) := by
  obtain ⟨h1, h2⟩ := R_cells h hc
  refine .ag _ _ h1.symm (fun i c y hi hy => ?_) (fun i y hy => ?_)
  · obtain ⟨z, z1, _, z3⟩ := h2 i c hi
    rw [z1] at hy; injection hy with hy; subst hy; exact z3
  · have hlt : i < cs.length := by rw [← h1]; exact (Array.getElem?_eq_some_iff.1 hy).1
    obtain ⟨z, z1, z2, _⟩ := h2 i cs[i] (by simp)
    rw [z1] at hy; injection hy with hy; subst hy; exact z2
theorem R_unfp {z : List T} {x : Value} (h : R g (.ag (z.map unfp)) x) : R g (.ag z) x := by
  cases h with
  | ag _ xs h1 h2 h3 =>
    refine .ag _ xs (by rw [← h1, List.length_map]) (fun i c y hc hy => ?_) h3
    have := h2 i (unfp c) y (by rw [List.getElem?_map, hc]; rfl) hy
    cases c <;> first | exact this | skip
    simp only [unfp] at this
    cases this
    exact .fp
theorem R_zero {ti : TI} {T0 : TypeId} (hT : TIok P T0 ti) {z : List T} (h : ti.zero = some z) : ∃ i x, P.info? T0 = some i ∧ i.zero = some x ∧ R g (.ag z) (.agg x.cells) := by
  obtain ⟨i, h1, _, _, h4⟩ := hT.info
  obtain ⟨⟨x, h5, h6, _⟩, _⟩ := h4 z h
  exact ⟨i, x, h1, h5, R_unfp (R_ag_cells (R_tval x) h6)⟩

/-- Operation o does what K and X say. -/
def DOk (P : Program) (o : Oper) (a : Act) (g : G P) (st : St) (w : World) (K X : Kn) : Prop :=
  ∀ (K' : Act → World → Prop) (Q' : Exit → Act → World → Prop),
    (∀ (v : T) (s' : St) (x : Value) (g' : G P) (w' : World), K v s' → Good g' s' w' → GL g st g' → (∀ b0, Step b0 g st w g' s' w') → R g' v x → K' (a.put o.dst x) w') →
    (∀ (u : T) (s' : St) (v : Value) (g' : G P) (w' : World), X u s' → Good g' s' w' → GL g st g' → (∀ b0, Step b0 g st w g' s' w') → R g' u v → Q' (.panic [{ v, recovered := false }]) a w') → o.wp P a w K' Q'
theorem dok_val {v : T} {x : Value} (hg : Good g st w) (hrun : (execOp a.eval o).run P w = .ok (.value x) w) (hR : R g v x) (hK : K v st) : DOk P o a g st w K X := by
  intro K' Q' h1 _
  unfold Oper.wp
  rw [hrun]
  exact h1 v st x g w hK hg (GL.refl g st) (fun _ => Step.refl) hR
theorem dok_quiet {v : T} {x : Value} (hg : Good g st w) (hrun : quiet P (execOp a.eval o) = some (.value x)) (hR : R g v x) (hK : K v st) : DOk P o a g st w K X :=
  dok_val hg (quiet_run hrun w) hR hK
theorem dok_move (hg : Good g st w) (ht : RelT g n t a) {x : Operand} (ho : o.op = .move x ∨ o.op = .assign x) (hK : K (ev t x) st) : DOk P o a g st w K X :=
  dok_quiet (x := a.eval x) hg (by rcases ho with ho | ho <;> simp only [execOp, ho] <;> rfl) (ht.ev x) hK
theorem dok_pick (hg : Good g st w) (ht : RelT g n t a) {c x y : Operand} {b : Bool} (ho : o.op = .pick c x y) (hc : ev t c = .bool b) {v : T} (hv : R g v (if b = true then a.eval x else a.eval y)) (hK : K v st) : DOk P o a g st w K X := by
  have h := ht.ev c
  rw [hc] at h
  generalize he : a.eval c = ec at h
  cases h
  exact dok_quiet (x := if b = true then a.eval x else a.eval y) hg (by simp only [execOp, ho, he, asBool, quiet_bind, quiet_pure, Option.bind_some]) hv hK

/-! ### Parts -/
theorem subRow_some {agg : Bool} {size off : Nat} {cs : List T} {K : T → Prop} (h : subRow agg size cs off K) : ∃ v, K v ∧ (if agg = true then (if off + size ≤ cs.length then some (T.ag ((cs.drop off).take size)) else none) else cs[off]?) = some v := by
  unfold subRow at h
  cases agg with
  | true =>
    simp only at h
    split at h
    · rename_i hd
      exact ⟨_, h, by simp only [if_true]; rw [if_pos (by simpa using hd)]⟩
    · exact h.elim
  | false =>
    simp only at h
    split at h
    · rename_i u hu
      exact ⟨u, h, by simpa using hu⟩
    · exact h.elim
theorem quiet_part {T0 : TypeId} {ti : TI} (hT : TIok P T0 ti) {xs : Array Value} {cs : List T} {off : Nat} {v : T} (hx : R g (.ag cs) (.agg xs))
    (h : (if ti.agg = true then (if off + ti.size ≤ cs.length then some (T.ag ((cs.drop off).take ti.size)) else none) else cs[off]?) = some v) : ∃ y, quiet P (part T0 xs off) = some y ∧ R g v y := by
  obtain ⟨d, hd, hd', _⟩ := hT.under
  obtain ⟨i, hi, hi', _⟩ := hT.info
  cases hx with
  | ag _ _ k1 k2 k3 =>
    cases hag : ti.agg with
    | false =>
      simp only [hag, Bool.false_eq_true, if_false] at h
      have hlt : off < xs.size := by rw [← k1]; exact (List.getElem?_eq_some_iff.1 h).1
      exact ⟨xs[off], by simp [part, quiet_bind, hd, hd', hag, hlt], k2 off v _ h (by simp [hlt])⟩
    | true =>
      simp only [hag, if_true] at h
      split at h
      · rename_i hle
        injection h with h
        subst h
        refine ⟨.agg (xs.extract off (off + ti.size)), by simp [part, quiet_bind, hd, hd', hag, hi, hi'], .ag _ _ (by simp; omega) (fun j c y hc hy => ?_) (fun j y hy => ?_)⟩
        · have hj : j < ti.size := by
            have := (List.getElem?_eq_some_iff.1 hc).1
            simp at this; omega
          rw [List.getElem?_take_of_lt hj, List.getElem?_drop] at hc
          rw [Array.getElem?_extract] at hy
          split at hy
          · exact k2 _ c y hc hy
          · cases hy
        · rw [Array.getElem?_extract] at hy
          split at hy
          · exact k3 _ y hy
          · cases hy
      · cases h
theorem fieldOf_some {T0 : TypeId} {f off : Nat} {te : TI} (hD : TDok P D) (h : fieldOf D T0 f = some (off, te)) : ∃ fields fd, P.underlying T0 = some (.struct fields) ∧ fields[f]? = some fd ∧ fd.offset = off ∧ TIok P fd.type te := by
  unfold fieldOf at h
  split at h
  case h_2 => cases h
  rename_i ti hti
  split at h
  case h_2 => cases h
  rename_i fs hfs
  split at h
  case h_2 => cases h
  rename_i off' t' hf
  split at h
  case h_2 => cases h
  rename_i te' hte
  simp only [Option.some.injEq, Prod.mk.injEq] at h
  obtain ⟨rfl, rfl⟩ := h
  obtain ⟨d, h1, _, h3⟩ := (hD _ _ hti).under
  rw [hfs] at h3
  obtain ⟨fields, rfl, rfl, _⟩ := h3
  rw [List.getElem?_map] at hf
  cases hfd : fields.toList[f]? with
  | none => simp [hfd] at hf
  | some fd =>
    simp only [hfd, Option.map_some, Option.some.injEq, Prod.mk.injEq] at hf
    obtain ⟨rfl, rfl⟩ := hf
    exact ⟨fields, fd, h1, by simpa using hfd, rfl, hD _ _ hte⟩
theorem dok_fieldAddr (hD : TDok P D) (hg : Good g st w) (ht : RelT g n t a) {s : TypeId} {x : Operand} {f : Nat} (ho : o.op = .fieldAddr s x f) (h : dfieldAddr D s (ev t x) f fun v => K v st) : DOk P o a g st w K X := by
  unfold dfieldAddr at h
  split at h
  case h_2 => exact h.elim
  rename_i off te hf
  obtain ⟨fields, fd, h1, h2, rfl, hte⟩ := fieldOf_some hD hf
  obtain ⟨i, hi, hi', _⟩ := hte.info
  split at h
  · exact h.elim
  rename_i m hm
  have hne : ¬ i.size = 0 := by omega
  have hq : ∀ b q, a.eval x = .pointer (some ⟨b, q, none⟩) → quiet P (execOp a.eval o) = some (.value (.pointer (some ⟨b, q + fd.offset, none⟩))) := by
    intro b q e
    simp [execOp, ho, Instr.fieldAt, e, Instr.sureAddr, fieldPlace, quiet_bind, h1, h2, hi, hne, Addr.add_lit]
  have hR := ht.ev x
  generalize hv : ev t x = xv at hR h
  generalize he : a.eval x = ex at hR
  cases hR with
  | pt k q oi p1 => exact dok_quiet hg (hq _ _ he) (.pt k _ oi p1) h
  | pr e u j b q cs p1 p2 => exact dok_quiet hg (hq _ _ he) (by rw [Nat.add_assoc]; exact .pr e u _ b q cs p1 p2) h
  | pe e k ver i j oi p1 p2 => exact dok_quiet hg (hq _ _ he) (by rw [Nat.add_assoc]; exact .pe e k ver i _ oi p1 p2) h
  | _ => exact h.elim
theorem dok_field (hD : TDok P D) (hg : Good g st w) (ht : RelT g n t a) {s : TypeId} {x : Operand} {f : Nat} (ho : o.op = .field s x f) (h : dfield D s (ev t x) f fun v => K v st) : DOk P o a g st w K X := by
  unfold dfield at h
  split at h
  case h_2 => exact h.elim
  rename_i off te hf
  obtain ⟨fields, fd, h1, h2, rfl, hte⟩ := fieldOf_some hD hf
  have hR := ht.ev x
  generalize hv : ev t x = xv at hR h
  generalize he : a.eval x = ex at hR
  split at h
  case h_2 => exact h.elim
  rename_i cs
  obtain ⟨v, hK, hs⟩ := subRow_some h
  cases hR with
  | ag cs xs k1 k2 k3 =>
    obtain ⟨y, y1, y2⟩ := quiet_part hte (R.ag cs xs k1 k2 k3) hs
    exact dok_quiet hg (by simp [execOp, ho, Instr.field, he, asAgg, quiet_bind, h1, h2, y1]) y2 hK

theorem arrOf_some {s : St} {e : El} {k ver : Nat} {l : List (ty e)} (h : arrOf s e k ver = some l) : s[k]? = some (some (.arr ver e l)) := by
  unfold arrOf at h
  split at h
  case h_2 => cases h
  rename_i v e' l' hr
  split at h
  case isFalse => cases h
  rename_i he
  subst he
  split at h
  case isFalse => cases h
  rename_i hv
  subst hv
  injection h with h
  subst h
  exact rd_some.1 hr
theorem slice_under {T0 e : TypeId} {ti : TI} (hT : TIok P T0 ti) (h : ti.srt = .slice e) : P.underlying T0 = some (.slice e) := by
  obtain ⟨d, h1, _, h3⟩ := hT.under
  rw [h] at h3
  rw [h1]; exact congrArg some h3.1
theorem slice_info {T0 e : TypeId} {ti : TI} (hT : TIok P T0 ti) (h : ti.srt = .slice e) : ∃ i, P.info? e = some i := by
  obtain ⟨d, h1, _, h3⟩ := hT.under
  rw [h] at h3
  exact Option.isSome_iff_exists.1 h3.2
theorem array_under {T0 e : TypeId} {m : Nat} {ti : TI} (hT : TIok P T0 ti) (h : ti.srt = .array m e) : P.underlying T0 = some (.array m e) := by
  obtain ⟨d, h1, _, h3⟩ := hT.under
  rw [h] at h3
  rw [h1]; exact congrArg some h3
theorem str_under {T0 : TypeId} {ti : TI} (hT : TIok P T0 ti) (h : ti.srt = .string) : P.underlying T0 = some .string := by
  obtain ⟨d, h1, _, h3⟩ := hT.under
  rw [h] at h3
  rw [h1]; exact congrArg some h3
theorem int_under {T0 : TypeId} {k : IntKind} {ti : TI} (hT : TIok P T0 ti) (h : ti.srt = .int k) : P.underlying T0 = some (.int k) := by
  obtain ⟨d, h1, _, h3⟩ := hT.under
  rw [h] at h3
  rw [h1]; exact congrArg some h3
theorem Good.arr (hg : Good g st w) {k ver : Nat} {e : El} {l : List (ty e)} (h : st[k]? = some (some (.arr ver e l))) : ∃ oi, g.ob k ver = some oi ∧ oi.len = l.length ∧ oi.len ≤ oi.cap ∧ oi.cap ≤ maxLen ∧ (oi.cap ≠ 0 → (∀ cs0, ¬ g.ro oi.b cs0) ∧
    ∃ (blk : Array Value) (E : TypeId) (fr : Nat × Nat), w.heap[oi.b]? = some (.cells blk E fr) ∧ (∀ q, q < blk.size → ¬ (fr.1 ≤ q ∧ q < fr.2)) ∧ Cells g (encs e l) blk ∧ oi.cap * sz e ≤ blk.size ∧ elTy e E = true) := by
  obtain ⟨oi, h1, h2, h3⟩ := hg.obj k _ h
  refine ⟨oi, h1, h2.1, h2.2.1, h2.2.2, fun hc => ?_⟩
  rcases h3 with h3 | h3
  · exact absurd h3.2 hc
  · exact h3
end
end Go.Proofs.YtoclmkbjgmgekaaDoor

/-
  The machine over typed values, 6: memory. No program in sight.
-/
namespace Go.Proofs.YtoclmkbjgmgekaaDoor
set_option linter.unusedVariables false
set_option linter.unusedSimpArgs false
set_option linter.unusedSectionVars false
open Go.RowKit
variable {P : Program} [Bd P]

theorem splice_length {cs xs : List T} {o : Nat} (h : o + xs.length ≤ cs.length) : (splice cs o xs).length = cs.length := by
  simp [splice]; omega
theorem splice_get {cs xs : List T} {o : Nat} (h : o + xs.length ≤ cs.length) (j : Nat) : (splice cs o xs)[j]? = if o ≤ j ∧ j < o + xs.length then xs[j - o]? else cs[j]? := by
  unfold splice
  have ho : o ≤ cs.length := by omega
  have hl : (cs.take o).length = o := by simp [ho]
  by_cases h1 : j < o
  · rw [List.getElem?_append_left (by omega), if_neg (by omega), List.getElem?_take_of_lt h1]
  · rw [List.getElem?_append_right (by omega), hl]
    by_cases h2 : j < o + xs.length
    · rw [List.getElem?_append_left (by omega), if_pos (by omega)]
    · rw [List.getElem?_append_right (by omega), if_neg (by omega), List.getElem?_drop]
      congr 1; omega
theorem set_at {st : St} {k : Nat} {o : Ob} (hk : k < st.length) (i : Nat) : (st.set k (some o))[i]? = if i = k then some (some o) else st[i]? := by
  rw [List.getElem?_set]
  by_cases e : k = i
  · subst e; simp [hk]
  · have : i ≠ k := Ne.symm e
    simp [e, this]
theorem push_at {st : St} {o : Ob} (i : Nat) : (st ++ [some o])[i]? = if i = st.length then some (some o) else st[i]? := by
  by_cases e : i < st.length
  · rw [List.getElem?_append_left e, if_neg (by omega)]
  · rw [List.getElem?_append_right (by omega)]
    by_cases e' : i = st.length
    · subst e'; simp
    · rw [if_neg e', List.getElem?_eq_none (l := st) (by omega)]
      have h1 : i - st.length = (i - st.length - 1) + 1 := by omega
      rw [h1]; simp

section
variable {P : Program} [Bd P] {D : TD} {g : G P} {st : St} {w : World} {n : Nat} {t : Tm} {a : Act} {o : Oper} {K X : Kn}

/-- A row of cells in memory. -/
def RowAt (g : G P) (w : World) (cs : List T) (b off : Nat) : Prop := ∀ (j : Nat) (u : T), cs[j]? = some u → ∃ y, w.cell? ⟨b, off + j, none⟩ = some y ∧ y.oneCell' = true ∧ R g u y
theorem RowAt.of {cs : List T} {blk : Array Value} {b : Nat} {E : TypeId} {fr : Nat × Nat} (h : Cells g cs blk) (hb : w.heap[b]? = some (.cells blk E fr)) (off : Nat) : RowAt g w (cs.drop off) b off := by
  intro j u hj
  rw [List.getElem?_drop] at hj
  obtain ⟨y, y1, y2, y3⟩ := h.at_ _ u hj
  exact ⟨y, by simp [World.cell?, hb, y1], y2, y3⟩
theorem RowAt.take {cs : List T} {b off : Nat} (h : RowAt g w cs b off) (m : Nat) : RowAt g w (cs.take m) b off := by
  intro j u hj
  rw [List.getElem?_take] at hj
  split at hj
  · exact h j u hj
  · cases hj
theorem RowAt.ofR {cs : List T} {blk : Array Value} {b : Nat} {E : TypeId} {fr : Nat × Nat} (h : CellsR g cs blk) (hb : w.heap[b]? = some (.cells blk E fr)) (off m : Nat) (hp : ∀ u ∈ (cs.drop off).take m, u.pure1 = true) : RowAt g w ((cs.drop off).take m) b off := by
  intro j u hj
  have hpu := hp u (List.mem_of_getElem? hj)
  rw [List.getElem?_take] at hj
  split at hj
  · rw [List.getElem?_drop] at hj
    obtain ⟨x, h1, h2, h3⟩ := h.at_ _ u hj hpu
    exact ⟨x, by simp [World.cell?, hb, h1], h2, h3⟩
  · cases hj
theorem RowAt.drop {cs : List T} {b off : Nat} (h : RowAt g w cs b off) (m : Nat) : RowAt g w (cs.drop m) b (off + m) := by
  intro j u hj
  rw [List.getElem?_drop] at hj
  have := h (m + j) u hj
  rw [← Nat.add_assoc] at this
  exact this
/-- What a pointer points to. -/
theorem ptr_row (hg : Good g st w) {v : T} {x : Value} (h : R g v x) : (∀ k off cs, v = .pt k off → rd st k = some (.cells cs) → meHead cs = false → ∃ b q, x = .pointer (some ⟨b, q, none⟩) ∧ RowAt g w (cs.drop off) b q) ∧
    (∀ e u j, v = .pr e u j → ∃ b q, x = .pointer (some ⟨b, q, none⟩) ∧ RowAt g w ((enc e u).drop j) b q) ∧
    (∀ e k ver i j l u, v = .pe e k ver i j → arrOf st e k ver = some l → l[i]? = some u → ∃ b q, x = .pointer (some ⟨b, q, none⟩) ∧ RowAt g w ((enc e u).drop j) b q) := by
  refine ⟨fun k off cs hv hr hm => ?_, fun e u j hv => ?_, fun e k ver i j l u hv hr hu => ?_⟩
  · subst hv
    cases h with
    | pt _ _ oi p1 =>
      obtain ⟨oi', h1, h2, h3⟩ := hg.obj k _ (rd_some.1 hr)
      simp only [obVer] at h1
      rw [p1] at h1
      injection h1 with h1
      subst h1
      rcases h3 with h3 | ⟨_, blk, E, fr, h4, _, h5, _⟩
      · cases h3.1
      · simp only [isMp, hm, view] at h4
        exact ⟨_, _, rfl, RowAt.of h5 h4 off⟩
  · subst hv
    cases h with
    | pr _ _ _ b q cs p1 p2 =>
      obtain ⟨blk, E, fr, h1, h2⟩ := hg.ro b cs p1
      refine ⟨b, q + j, rfl, ?_⟩
      rw [← p2]
      exact (RowAt.ofR h2 h1 q _ (by rw [p2]; exact enc_pure _ _)).drop j
  · subst hv
    cases h with
    | pe _ _ _ _ _ oi p1 p2 =>
      obtain ⟨oi', h1, _, _, _, h2⟩ := hg.arr (arrOf_some hr)
      rw [p1] at h1
      injection h1 with h1
      subst h1
      obtain ⟨_, blk, E, fr, h3, _, h4, _⟩ := h2 p2
      refine ⟨oi.b, i * sz e + j, rfl, ?_⟩
      rw [← encs_at hu]
      exact ((RowAt.of h4 h3 _).take _).drop j
theorem run_load_row {T0 : TypeId} {ti : TI} (hT : TIok P T0 ti) {cs : List T} {off b q : Nat} {v : T} (hrow : RowAt g w (cs.drop off) b q)
    (h : (if ti.agg = true then (if off + ti.size ≤ cs.length then some (T.ag ((cs.drop off).take ti.size)) else none) else cs[off]?) = some v) : ∃ y, (loadVar T0 ⟨b, q, none⟩).run P w = .ok y w ∧ R g v y := by
  obtain ⟨d, hd, hd', _⟩ := hT.under
  obtain ⟨i, hi, hi', _⟩ := hT.info
  have hagg : (isAgg T0).run P w = .ok ti.agg w := quiet_run (by rw [quiet_agg, hd]; simp [hd']) w
  cases hag : ti.agg with
  | false =>
    simp only [hag, Bool.false_eq_true, if_false] at h
    obtain ⟨y, y1, y2, y3⟩ := hrow 0 v (by rw [List.getElem?_drop]; simpa using h)
    refine ⟨y, ?_, y3⟩
    rw [hag] at hagg
    simp only [loadVar, Sem.run_bind, Sem.run_pure, Result.andThen_ok, hagg]
    simp at y1
    simp [run_load, y1]
  | true =>
    simp only [hag, if_true] at h
    split at h
    · rename_i hle
      injection h with h
      subst h
      obtain ⟨ys, hl, hys⟩ := exists_list ti.size (p := fun j y => ∃ u, cs[off + j]? = some u ∧ w.cell? ⟨b, q + j, none⟩ = some y ∧ y.oneCell' = true ∧ R g u y) (fun j hj => by
        obtain ⟨y, hy⟩ := hrow j cs[off + j] (by rw [List.getElem?_drop]; simp)
        exact ⟨y, cs[off + j], by simp, hy⟩)
      have hload : (loadCells ⟨b, q, none⟩ ti.size).run P w = .ok ys.toArray w := by
        rw [← hl]
        exact run_loadCells_list w _ ys fun j y hj => by
          obtain ⟨u, _, h2, _⟩ := hys j y hj
          rw [Addr.add_lit]; exact h2
      have hsz : (sizeOf T0).run P w = .ok ti.size w := quiet_run (by rw [quiet_size, hi]; simp [hi']) w
      rw [hag] at hagg
      refine ⟨.agg ys.toArray, ?_, .ag _ _ (by simp; omega) (fun j c y hc hy => ?_) (fun j y hy => ?_)⟩
      · simp only [loadVar, Sem.run_bind, Sem.run_pure, Result.andThen_ok, hagg, hload, hsz, if_true]
      · obtain ⟨u, u1, _, _, u4⟩ := hys j y (by simpa using hy)
        have hj : j < ti.size := by
          have := (List.getElem?_eq_some_iff.1 hc).1
          simp at this; omega
        rw [List.getElem?_take_of_lt hj, List.getElem?_drop, u1] at hc
        injection hc with hc
        rw [← hc]; exact u4
      · obtain ⟨_, _, _, u3, _⟩ := hys j y (by simpa using hy)
        exact u3
    · cases h
theorem dload_some {T0 : TypeId} {ti : TI} (hT : TIok P T0 ti) (hg : Good g st w) {v : T} {x : Value} {K : T → Prop} (hR : R g v x) (h : dload ti st v K) : ∃ ad y u, x = .pointer (some ad) ∧ (loadVar T0 ad).run P w = .ok y w ∧ R g u y ∧ K u := by
  obtain ⟨q1, q2, q3⟩ := ptr_row hg hR
  unfold dload at h
  split at h
  · rename_i k off
    split at h
    case h_2 => exact h.elim
    rename_i cs hr
    split at h
    case h_2 => exact h.elim
    rename_i hm
    obtain ⟨u, hK, hs⟩ := subRow_some h
    obtain ⟨b, q, rfl, hrow⟩ := q1 k off cs rfl hr hm
    obtain ⟨y, y1, y2⟩ := run_load_row hT hrow hs
    exact ⟨_, y, u, rfl, y1, y2, hK⟩
  · rename_i e z j
    obtain ⟨u, hK, hs⟩ := subRow_some h
    obtain ⟨b, q, rfl, hrow⟩ := q2 e z j rfl
    obtain ⟨y, y1, y2⟩ := run_load_row hT hrow hs
    exact ⟨_, y, u, rfl, y1, y2, hK⟩
  · rename_i e k ver i j
    split at h
    case h_2 => exact h.elim
    rename_i l hr
    obtain ⟨z, hz, h⟩ := h
    obtain ⟨u, hK, hs⟩ := subRow_some h
    obtain ⟨b, q, rfl, hrow⟩ := q3 e k ver i j l z rfl hr hz
    obtain ⟨y, y1, y2⟩ := run_load_row hT hrow hs
    exact ⟨_, y, u, rfl, y1, y2, hK⟩
  · exact h.elim
theorem dok_load (hD : TDok P D) (hg : Good g st w) (ht : RelT g n t a) {T0 : TypeId} {x : Operand} (ho : o.op = .load T0 x) {ti : TI} (hti : tyOf D T0 = some ti) (h : dload ti st (ev t x) fun v => K v st) : DOk P o a g st w K X := by
  obtain ⟨ad, y, u, h1, h2, h3, h4⟩ := dload_some (hD _ _ hti) hg (ht.ev x) h
  exact dok_val (x := y) hg (by simp only [execOp, ho, Instr.loadAt, h1, Instr.sureAddr, Sem.run_bind, Sem.run_pure, Result.andThen_ok, h2]) h3 h4

theorem old_ver (hg : Good g st w) {k : Nat} {o' : Ob} (h : st[k]? = some (some o')) {u : Nat} {oi : OI} (hu : g.ob k u = some oi) : u ≤ obVer o' := (hg.old k u oi hu).2 o' h
theorem no_new (hg : Good g st w) {u : Nat} : g.ob st.length u = none := by
  cases h : g.ob st.length u with
  | none => rfl
  | some oi => have := (hg.old _ _ _ h).1; omega
theorem blk_of {k : Nat} {o' : Ob} {oi : OI} (h : g.ob k (obVer o') = some oi) (hn : ¬ (isArr o' = true ∧ oi.cap = 0)) : obBlk g k o' = some oi.b := by
  unfold obBlk
  rw [h]
  simp only
  rw [if_neg hn]

theorem fpHead_at {cs : List T} : fpHead cs = true ↔ cs[0]? = some .fp := by
  cases cs with
  | nil => simp [fpHead]
  | cons v r => cases v <;> simp [fpHead]
theorem meHead_at {cs : List T} : meHead cs = true ↔ ∃ e l, cs[0]? = some (.ments e l) := by
  cases cs with
  | nil => simp [meHead]
  | cons v r => cases v <;> simp [meHead]
theorem splice_me {cs xs : List T} {q : Nat} (h : q + xs.length ≤ cs.length) (hx : meHead xs = false) (hc : meHead cs = false) : meHead (splice cs q xs) = false := by
  refine Bool.eq_false_iff.2 fun hh => ?_
  obtain ⟨e, l, hh⟩ := meHead_at.1 hh
  rw [splice_get h] at hh
  split at hh
  · rename_i e0
    obtain rfl : q = 0 := by omega
    rw [Nat.sub_zero] at hh
    rw [meHead_at.2 ⟨e, l, hh⟩] at hx
    cases hx
  · rw [meHead_at.2 ⟨e, l, hh⟩] at hc
    cases hc
theorem splice_head {cs xs : List T} {q : Nat} (h : q + xs.length ≤ cs.length) (hx : fpHead xs = false) (hh : fpHead (splice cs q xs) = true) : fpHead cs = true := by
  rw [fpHead_at, splice_get h] at hh
  split at hh
  · rename_i e
    obtain rfl : q = 0 := by omega
    rw [Nat.sub_zero, ← fpHead_at, hx] at hh
    cases hh
  · exact fpHead_at.2 hh
def sameOb : Ob → Ob → Prop
  | .cells cs, .cells cs' => cs'.length = cs.length
  | .arr _ e _, .arr _ e' _ => e' = e
  | _, _ => False
/-- A row is stored in an object's block. -/
theorem dok_put (hg : Good g st w) {T0 : TypeId} {ti : TI} (hT : TIok P T0 ti) {x y : Operand} (ho : o.op = .store T0 x y) {k q : Nat} {ob ob' : Ob} {oi : OI} {xs : List T} (hk : st[k]? = some (some ob)) (hoi : g.ob k (obVer ob) = some oi) (hn : ¬ (isArr ob = true ∧ oi.cap = 0))
    (hx : a.eval x = .pointer (some ⟨oi.b, q, none⟩)) (hy : R g (.ag xs) (.agg (a.eval y).cells)) (hxs : xs.length = ti.size) (hq : q + xs.length ≤ (obCells ob).length)
    (hob : obVer ob' = obVer ob ∧ isArr ob' = isArr ob) (hc : ∀ (j : Nat) (u : T), (obCells ob')[j]? = some u → ∃ u', (splice (obCells ob) q xs)[j]? = some u' ∧ ∀ z, R g u' z → R g u z) (hl : (obCells ob').length = (obCells ob).length) (hfit : obFits ob' oi)
    (hsz : sameOb ob ob') (hmp : isMp ob = false ∧ isMp ob' = false) (hfp : isArr ob' = false → fpHead (obCells ob') = true → fpHead (obCells ob) = true) (hK : K .undef (st.set k (some ob'))) : DOk P o a g st w K X := by
  obtain ⟨oi', h1, _, _, hro, blk, E, fr, g1, g2, g3, g4⟩ := hg.own hk (blk_of hoi hn)
  rw [hmp.1] at g1
  have g1 : w.heap[oi.b]? = some (.cells blk E fr) := g1
  rw [hoi] at h1
  injection h1 with h1
  subst h1
  obtain ⟨i, hi, hi', _⟩ := hT.info
  cases hy with
  | ag _ _ r1 r2 r3 =>
  have hlen : (a.eval y).cells.toList.length = xs.length := by simp [r1]
  have hall : ∀ v ∈ (a.eval y).cells.toList, v.oneCell' = true := by
    intro v hv
    obtain ⟨j, hj⟩ := List.getElem?_of_mem hv
    exact r3 j v (by simpa using hj)
  obtain ⟨w', blk', a1, a2, a3, a4, a5, a6, a7, a8, a9⟩ := run_storeRow (P := P) oi.b q (a.eval y).cells.toList 0 w blk E fr g1 g2 (by have := g3.le; omega) hall
  have hszr : (sizeOf T0).run P w = .ok ti.size w := quiet_run (by rw [quiet_size, hi]; simp [hi']) w
  have hrun : (execOp a.eval o).run P w = .ok .skip w' := by
    simp only [execOp, ho, Instr.storeAt, hx, Instr.sureAddr, storeVar, Sem.run_bind, Sem.run_pure, Result.andThen_ok, hszr]
    rw [if_neg (by omega)]
    simp [a1]
  intro K' Q' hK' _
  unfold Oper.wp
  rw [hrun]
  have hkl : k < st.length := (List.getElem?_eq_some_iff.1 hk).1
  have hwide : obWide ob' oi E blk'.size := by
    rw [a3]
    cases ob <;> cases ob' <;> simp only [sameOb, obWide] at hsz g4 ⊢
    · exact cellW_if (hfp rfl) g4
    · subst hsz
      exact g4
  have hcells : ∀ (j : Nat) (u : T), (obCells ob')[j]? = some u → ∃ x : Value, blk'[j]? = some x ∧ x.oneCell' = true ∧ R g u x := by
    intro j u hj
    obtain ⟨u', hu', himp⟩ := hc j u hj
    rw [splice_get (by omega)] at hu'
    have hb := a4 j
    simp only [Nat.add_zero, hlen] at hb
    by_cases e : q ≤ j ∧ j < q + xs.length
    · rw [if_pos e] at hu' hb
      have hlt : j - q < (a.eval y).cells.size := by omega
      refine ⟨(a.eval y).cells[j - q], by rw [hb]; simp [hlt], r3 _ _ (Array.getElem?_eq_getElem hlt), himp _ (r2 _ _ _ hu' (Array.getElem?_eq_getElem hlt))⟩
    · rw [if_neg e] at hu' hb
      obtain ⟨z, z1, z2, z3⟩ := g3.at_ _ u' hu'
      exact ⟨z, by rw [hb]; exact z1, z2, himp z z3⟩
  obtain ⟨k1, k2, k3⟩ := good_put (st' := st.set k (some ob')) (o' := ob') (oi := oi) (w' := w') hg (set_at hkl) (by omega) (by simp) hob.1 (.inr hoi) (fun u oi' hu => old_ver hg hk hu) hfit
    (fun _ => .inr ⟨ob, hk, blk_of hoi hn⟩) a7 a8 a9 (by omega) (fun b _ hb => a5 b fun e => hb ob hk (by rw [blk_of hoi hn, e])) (fun _ => ⟨blk', E, fr, by rw [hmp.2]; exact a2, by rw [a3]; exact g2, ⟨by rw [a3, hl]; exact g3.le, hcells⟩, hwide⟩) (fun o2 ho2 => by
      rw [hk] at ho2
      simp only [Option.some.injEq] at ho2
      subst ho2
      cases ob <;> cases ob' <;> simp only [sameOb] at hsz
      · exact ⟨_, rfl, hsz, hoi⟩
      · subst hsz; exact ⟨_, _, rfl⟩)
  exact hK' _ _ _ _ _ hK k1 ⟨k3, set_hid (.inl ⟨_, hk⟩)⟩ k2 (.undef _)
theorem dok_store (hD : TDok P D) (hg : Good g st w) (ht : RelT g n t a) {T0 : TypeId} {x y : Operand} (ho : o.op = .store T0 x y) {ti : TI} (hti : tyOf D T0 = some ti) (h : dstore ti st (ev t x) (ev t y) fun s => K .undef s) : DOk P o a g st w K X := by
  unfold dstore at h
  split at h
  case h_2 => exact h.elim
  rename_i xs hxs
  split at h
  case h_2 => exact h.elim
  rename_i hlen
  simp only [decide_eq_true_eq] at hlen
  have hy := R_ag_cells (ht.ev y) hxs
  have hR := ht.ev x
  generalize hv : ev t x = xv at hR h
  generalize he : a.eval x = ex at hR
  split at h
  · rename_i k off
    split at h
    case h_2 => exact h.elim
    rename_i cs hr
    split at h
    case h_2 => exact h.elim
    rename_i hoff
    simp only [Bool.and_eq_true, Bool.not_eq_true', decide_eq_true_eq] at hoff
    obtain ⟨hmh, hoff⟩ := hoff
    cases hR with
    | pt _ _ oi p1 =>
      exact dok_put hg (hD _ _ hti) ho (ob := .cells cs) (ob' := .cells (splice cs off xs)) (rd_some.1 hr) p1 (by simp [isArr]) he hy hlen hoff ⟨rfl, rfl⟩ (fun j u hj => ⟨u, hj, fun _ h => h⟩) (splice_length hoff) trivial (splice_length hoff) ⟨hmh, splice_me hoff (cellsOf_me hxs) hmh⟩ (fun _ hh => splice_head hoff (cellsOf_head hxs) hh) h
  · rename_i e k ver i j
    split at h
    case h_2 => exact h.elim
    rename_i l hr
    obtain ⟨z, hz, h⟩ := h
    split at h
    case h_2 => exact h.elim
    rename_i hj
    simp only [decide_eq_true_eq] at hj
    split at h
    case h_2 => exact h.elim
    rename_i u hu
    cases hR with
    | pe _ _ _ _ _ oi p1 p2 =>
      obtain ⟨oi', h1, f1, f2, f3, _⟩ := hg.arr (arrOf_some hr)
      rw [p1] at h1
      injection h1 with h1
      subst h1
      have hil : i < l.length := (List.getElem?_eq_some_iff.1 hz).1
      have hi1 : i * sz e + sz e ≤ l.length * sz e := by rw [← Nat.succ_mul]; exact Nat.mul_le_mul_right _ hil
      obtain ⟨d1, d2⟩ := dec_ok e _ u hu
      have hsp : (splice (enc e z) j xs).length = sz e := by rw [splice_length (by rw [enc_len]; exact hj), enc_len]
      refine dok_put hg (hD _ _ hti) ho (ob := .arr ver e l) (ob' := .arr ver e (l.set i u)) (arrOf_some hr) p1 (by simp [p2]) he hy hlen (by simp only [obCells, encs_len]; omega) ⟨rfl, rfl⟩ (fun m v hm => ?_) (by simp [obCells, encs_len]) ⟨by simp [f1], f2, f3⟩ rfl ⟨rfl, rfl⟩ (fun hh => by cases hh) h
      simp only [obCells] at hm ⊢
      have hml : m < (l.set i u).length * sz e := by rw [← encs_len]; exact (List.getElem?_eq_some_iff.1 hm).1
      rw [List.length_set] at hml
      have hp := sz_pos e
      have hmd : m / sz e < l.length := Nat.div_lt_of_lt_mul (by rw [Nat.mul_comm]; exact hml)
      have hme : m = m / sz e * sz e + m % sz e := by rw [Nat.mul_comm]; exact (Nat.div_add_mod m (sz e)).symm
      have hmr := Nat.mod_lt m hp
      generalize m / sz e = p at *
      generalize m % sz e = r at *
      subst hme
      rw [splice_get (by rw [encs_len]; omega)]
      by_cases hpi : p = i
      · subst hpi
        rw [encs_get (x := u) (by rw [List.getElem?_set_self hil]) hmr] at hm
        obtain ⟨c, c1, c2⟩ := d2 r v hm
        rw [splice_get (by rw [enc_len]; exact hj)] at c1
        by_cases hin : j ≤ r ∧ r < j + xs.length
        · rw [if_pos hin] at c1
          rw [if_pos (by omega), show p * sz e + r - (p * sz e + j) = r - j by omega]
          exact ⟨c, c1, fun z => c2 g z⟩
        · rw [if_neg hin] at c1
          rw [if_neg (by omega), encs_get hz hmr]
          exact ⟨c, c1, fun z => c2 g z⟩
      · have hpl : (l.set i u)[p]? = some l[p] := by rw [List.getElem?_set_ne (Ne.symm hpi)]; simp [hmd]
        rw [encs_get hpl hmr] at hm
        have : p * sz e + sz e ≤ i * sz e ∨ i * sz e + sz e ≤ p * sz e := by
          rcases Nat.lt_or_gt_of_ne hpi with h1 | h1
          · left; rw [← Nat.succ_mul]; exact Nat.mul_le_mul_right _ h1
          · right; rw [← Nat.succ_mul]; exact Nat.mul_le_mul_right _ h1
        rw [if_neg (by omega), encs_get (x := l[p]) (by simp [hmd]) hmr]
        exact ⟨v, hm, fun _ h => h⟩
  · exact h.elim

/-- A new object. -/
theorem dok_new (hg : Good g st w) {z : List T} {E : TypeId} {x : Value}
    (hrun : (execOp a.eval o).run P w = .ok (.value (.pointer (some ⟨w.heap.size, 0, none⟩))) (w.alloc (.cells x.cells E))) (hx : R g (.ag z) (.agg x.cells)) (hW : cellW z E z.length = true) (hM : meHead z = false) (hK : K (.pt st.length 0) (st ++ [some (.cells z)])) : DOk P o a g st w K X := by
  intro K' Q' hK' _
  unfold Oper.wp
  rw [hrun]
  cases hx with
  | ag _ _ h1 h2 h3 =>
    obtain ⟨k1, k2, k3⟩ := good_put (st' := st ++ [some (.cells z)]) (k := st.length) (v := 0) (o' := .cells z) (oi := ⟨w.heap.size, 0, 0⟩) (w' := w.alloc (.cells x.cells E)) hg push_at (Nat.le_refl _) (by simp) rfl (.inl (no_new hg)) (fun u oi hu => by rw [no_new hg] at hu; cases hu) trivial
      (fun _ => .inl (Nat.le_refl _)) rfl rfl rfl (by simp) (fun b hb _ => Below.heap_alloc w _ b hb) (fun _ => ⟨x.cells, E, (0, 0), by simp only [isMp, hM]; exact heap_alloc_new w _, fun q _ h => absurd h.2 (Nat.not_lt_zero _), ⟨by simp only [obCells]; omega, fun j u hu => by
        simp only [obCells] at hu
        have hj : j < x.cells.size := by rw [← h1]; exact (List.getElem?_eq_some_iff.1 hu).1
        exact ⟨x.cells[j], by simp [hj], h3 j _ (by simp [hj]), h2 j u _ hu (by simp [hj])⟩⟩, by simp only [obWide]; rw [← show z.length = x.cells.size from h1]; exact hW⟩) (fun o ho => by rw [List.getElem?_eq_none (Nat.le_refl _)] at ho; cases ho)
    exact hK' _ _ _ _ _ hK k1 ⟨k3, set_hid (.inr rfl)⟩ k2 (.pt _ 0 ⟨w.heap.size, 0, 0⟩ (by simp [G.set]))
theorem dok_box (hg : Good g st w) (ht : RelT g n t a) {T0 : TypeId} {x : Operand} {z : List T} (ho : o.op = .box T0 x) (h : cellsOf (ev t x) = some z) (hK : K (.pt st.length 0) (st ++ [some (.cells z)])) : DOk P o a g st w K X :=
  dok_new (x := a.eval x) (E := T0) hg (by simp only [execOp, ho, Instr.box, newVar, newRow, newObj, Sem.run_bind, Sem.run_pure, Result.andThen_ok]; rfl) (R_ag_cells (ht.ev x) h) (cellW_of (cellsOf_head h)) (cellsOf_me h) hK
theorem dok_alloc (hD : TDok P D) (hg : Good g st w) {T0 : TypeId} {ti : TI} {z : List T} (ho : o.op = .alloc T0) (hti : tyOf D T0 = some ti) (h : ti.zero = some z) (hK : K (.pt st.length 0) (st ++ [some (.cells z)])) : DOk P o a g st w K X := by
  obtain ⟨i, x, h1, h2, h3⟩ := R_zero (g := g) (hD _ _ hti) h
  obtain ⟨_, _, _, _, h4⟩ := (hD _ _ hti).info
  obtain ⟨⟨_, _, hc4, hW⟩, _⟩ := h4 z h
  have hM : meHead z = false := by
    have := cellsOf_me hc4
    cases z with
    | nil => rfl
    | cons c r => cases c <;> first | rfl | exact this
  have hz : (zeroValue T0).run P w = .ok x w := quiet_run (by rw [quiet_zero, h1]; simp [h2]) w
  exact dok_new (x := x) (E := T0) hg (by simp only [execOp, ho, Instr.alloc, newVar, newRow, newObj, Sem.run_bind, Sem.run_pure, Result.andThen_ok, hz]; rfl) h3 hW hM hK
end
end Go.Proofs.YtoclmkbjgmgekaaDoor

/-
  The machine over typed values, 7: reckoning, indexes, slices. No program in sight.
-/
namespace Go.Proofs.YtoclmkbjgmgekaaDoor
set_option linter.unusedVariables false
set_option linter.unusedSimpArgs false
set_option linter.unusedSectionVars false
open Go.RowKit
variable {P : Program} [Bd P]

section
variable {P : Program} [Bd P] {D : TD} {g : G P} {st : St} {w : World} {n : Nat} {t : Tm} {a : Act} {o : Oper} {K X : Kn}

theorem asInt_some {v : T} {K : Int → Prop} (h : asInt v K) : ∃ k n, v = .int k n ∧ K n := by
  unfold asInt at h
  split at h
  · exact ⟨_, _, rfl, h⟩
  · exact h.elim
theorem R_int {k : IntKind} {m : Int} {x : Value} (h : R g (.int k m) x) : x = .int k m := by cases h; rfl
theorem kind_some (hD : TDok P D) {T0 : TypeId} {e : El} (h : kindOf D T0 = some e) : ∃ t' i, P.underlying T0 = some (.slice t') ∧ P.info? t' = some i ∧ i.size = sz e := by
  unfold kindOf at h
  split at h
  case h_2 => cases h
  rename_i ti hti
  split at h
  case h_2 => cases h
  rename_i t' hs
  split at h
  case h_2 => cases h
  rename_i te hte
  obtain ⟨i, hi, hi', _⟩ := (hD _ _ hte).info
  exact ⟨t', i, slice_under (hD _ _ hti) hs, hi, by rw [hi', ((hD _ _ hte).el e h).1]⟩
theorem dok_indexAddr (hD : TDok P D) (hg : Good g st w) (ht : RelT g n t a) {T0 : TypeId} {x y : Operand} (ho : o.op = .indexAddr T0 x y) (h : dindexAddr D T0 st (ev t x) (ev t y) fun v => K v st) : DOk P o a g st w K X := by
  unfold dindexAddr at h
  split at h
  case h_2 => exact h.elim
  rename_i k m hy
  have hy' := R_int (by have := ht.ev y; rw [hy] at this; exact this)
  have hR := ht.ev x
  generalize hv : ev t x = xv at hR h
  generalize he : a.eval x = ex at hR
  split at h
  · rename_i full e l
    split at h
    case isFalse => exact h.elim
    rename_i hk
    obtain ⟨t', i, hu, hi, hsz⟩ := kind_some hD hk
    obtain ⟨h0, u, hu', hK⟩ := h
    have hlt := (List.getElem?_eq_some_iff.1 hu').1
    cases hR with
    | sl _ _ _ A c h1 h2 h3 h4 =>
      obtain ⟨b, off, cs, rfl, hro, henc⟩ := h4 (by rintro rfl; simp at hlt)
      have hlt' : m < (l.length : Int) := by omega
      refine dok_quiet (x := .pointer (some ⟨b, off + m.toNat * sz e + 0, none⟩)) hg ?_ (.pr e u 0 b _ cs hro ?_) hK
      · simp [execOp, ho, Instr.indexAt, he, hy', asIntOf, quiet_bind, hu, hi, hsz, h0, hlt', Addr.add_lit]
      · rw [← encs_at hu', ← henc]
        have : m.toNat * sz e + sz e ≤ l.length * sz e := by rw [← Nat.succ_mul]; exact Nat.mul_le_mul_right _ hlt
        rw [List.drop_take, List.take_take, List.drop_drop, Nat.min_eq_left (by omega)]
  · rename_i e k0 ver
    split at h
    case isFalse => exact h.elim
    rename_i hk
    obtain ⟨t', i, hu, hi, hsz⟩ := kind_some hD hk
    split at h
    case h_2 => exact h.elim
    rename_i l hl
    obtain ⟨h0, hlt, hK⟩ := h
    cases hR with
    | oa _ _ _ oi A p1 p2 p3 p4 =>
      obtain ⟨oi', q1, q2, _⟩ := hg.arr (arrOf_some hl)
      rw [p1] at q1
      injection q1 with q1
      subst q1
      have hc : oi.cap ≠ 0 := by omega
      have := p2 hc
      subst this
      have hlt' : m < (oi.len : Int) := by omega
      refine dok_quiet (x := .pointer (some ⟨oi.b, m.toNat * sz e + 0, none⟩)) hg ?_ (.pe e k0 ver _ 0 oi p1 hc) hK
      simp [execOp, ho, Instr.indexAt, he, hy', asIntOf, quiet_bind, hu, hi, hsz, h0, hlt', Addr.add_lit]
  · rename_i e k0 ver off m0
    split at h
    case isFalse => exact h.elim
    rename_i hk
    obtain ⟨t', i, hu, hi, hsz⟩ := kind_some hD hk
    split at h
    case h_2 => exact h.elim
    rename_i l hl
    obtain ⟨h0, hlt, hK⟩ := h
    cases hR with
    | os _ _ _ _ _ oi A c p1 p2 p3 p4 p5 p6 =>
      have := p3 (by omega)
      subst this
      have hlt' : m < (m0 : Int) := by omega
      refine dok_quiet (x := .pointer (some ⟨oi.b, (off + m.toNat) * sz e + 0, none⟩)) hg ?_ (.pe e k0 ver _ 0 oi p1 (by omega)) hK
      simp [execOp, ho, Instr.indexAt, he, hy', asIntOf, quiet_bind, hu, hi, hsz, h0, hlt', Addr.add_lit, Nat.add_mul]
  · rename_i k0 off
    split at h
    case h_2 => exact h.elim
    rename_i ti hti
    split at h
    case h_2 => exact h.elim
    rename_i m0 e hs
    split at h
    case h_2 => exact h.elim
    rename_i te hte
    obtain ⟨h0, hlt, hK⟩ := h
    have hu := array_under (hD _ _ hti) hs
    obtain ⟨i, hi, hi', _⟩ := (hD _ _ hte).info
    cases hR with
    | pt _ _ oi p1 =>
      have hlt' : m < (m0 : Int) := by omega
      refine dok_quiet (x := .pointer (some ⟨oi.b, off + m.toNat * te.size, none⟩)) hg ?_ (.pt k0 _ oi p1) hK
      simp [execOp, ho, Instr.indexAt, he, hy', asIntOf, quiet_bind, hu, hi, hi', h0, hlt', Addr.add_lit, Instr.sureAddr]
  · exact h.elim
theorem dok_index (hD : TDok P D) (hg : Good g st w) (ht : RelT g n t a) {T0 : TypeId} {x y : Operand} (ho : o.op = .index T0 x y) (h : dindex D T0 (ev t x) (ev t y) fun v => K v st) : DOk P o a g st w K X := by
  unfold dindex at h
  split at h
  case h_2 => exact h.elim
  rename_i k m hy
  have hy' := R_int (by have := ht.ev y; rw [hy] at this; exact this)
  have hR := ht.ev x
  generalize hv : ev t x = xv at hR h
  generalize he : a.eval x = ex at hR
  split at h
  case h_2 => exact h.elim
  rename_i ti hti
  split at h
  · rename_i s hs
    have hu := str_under (hD _ _ hti) hs
    obtain ⟨h0, b, hb, hK⟩ := h
    cases hR
    exact dok_quiet (x := .int .u8 b.toNat) hg (by simp [execOp, ho, Instr.index, he, hy', asIntOf, quiet_bind, hu, h0, hb]) (.int _ _) hK
  · rename_i m0 e cs hs
    split at h
    case h_2 => exact h.elim
    rename_i te hte
    obtain ⟨h0, hlt, h⟩ : 0 ≤ m ∧ m.toNat < m0 ∧ subRow te.agg te.size cs (m.toNat * te.size) fun v => K v st := by
      split at h
      · rename_i l hl
        obtain ⟨h0, hlt, s, hs, hK⟩ := h
        exact ⟨h0, hlt, strsOf_ok (K := fun v => K v st) hl hs hK⟩
      · exact h
    have hu := array_under (hD _ _ hti) hs
    obtain ⟨i, hi, hi', _⟩ := (hD _ _ hte).info
    obtain ⟨v, hK, hsub⟩ := subRow_some h
    cases hR with
    | ag _ xs k1 k2 k3 =>
      obtain ⟨z, z1, z2⟩ := quiet_part (hD _ _ hte) (R.ag cs xs k1 k2 k3) hsub
      have hlt' : m < (m0 : Int) := by omega
      exact dok_quiet (x := z) hg (by simp [execOp, ho, Instr.index, he, hy', asIntOf, quiet_bind, hu, h0, hlt', hi, hi', z1]) z2 hK
  · exact h.elim
theorem dok_extract (hg : Good g st w) (ht : RelT g n t a) {x : Operand} {i : Nat} {vs : List T} {v : T} (ho : o.op = .extract x i) (h1 : ev t x = .tu vs) (h : vs[i]? = some v) (hK : K v st) : DOk P o a g st w K X := by
  have hR := ht.ev x
  rw [h1] at hR
  generalize he : a.eval x = ex at hR
  cases hR with
  | tu _ xs k1 k2 =>
    have hlt : i < xs.size := by rw [← k1]; exact (List.getElem?_eq_some_iff.1 h).1
    refine dok_quiet (x := xs[i]) hg ?_ (k2 i v _ h (by simp [hlt])) hK
    simp [execOp, ho, he, Instr.extract, hlt, quiet_bind]
theorem dok_makeFunc (hg : Good g st w) (ht : RelT g n t a) {f : FuncId} {xs ys : Array Operand} (hy : (ytab f).isNone = true) (ho : o.op = .makeFunc (.func f) xs ys) (hK : K (.fn f (xs.toList.map (ev t)) (ys.toList.map (ev t))) st) : DOk P o a g st w K X := by
  refine dok_quiet (x := .func (.func f) (xs.map a.eval) (ys.map a.eval)) hg (by simp only [execOp, ho, Instr.makeFunc]; rfl) (.fn f _ _ _ _ hy (by simp) (by simp) (fun i c x hc hx => ?_) (fun i c x hc hx => ?_)) hK
  · simp only [List.getElem?_map, Array.getElem?_toList, Option.map_eq_some_iff] at hc
    obtain ⟨q, q1, rfl⟩ := hc
    simp only [Array.getElem?_map, q1, Option.map_some, Option.some.injEq] at hx
    subst hx
    exact ht.ev q
  · simp only [List.getElem?_map, Array.getElem?_toList, Option.map_eq_some_iff] at hc
    obtain ⟨q, q1, rfl⟩ := hc
    simp only [Array.getElem?_map, q1, Option.map_some, Option.some.injEq] at hx
    subst hx
    exact ht.ev q

/-! ### Numbers, strings -/
theorem beq_dec {x y : Int} : (x == y) = decide (x = y) := by rw [Bool.eq_iff_iff]; simp
theorem bytes_dec' {a b : ByteArray} : (a.toList == b.toList) = decide (a = b) := by
  rw [Bool.eq_iff_iff]
  simp only [beq_iff_eq, decide_eq_true_eq, ByteArray.toList_eq]
  exact ⟨fun h => ByteArray.ext (Array.toList_inj.1 h), fun h => by rw [h]⟩
theorem cmp_ok {op : BinOp} {p q : Int} {c : Bool} (h : dcmp op p q = some c) : quiet P (Op.intCmp op p q) = some (.bool c) := by
  cases op <;> simp only [dcmp, reduceCtorEq, Option.some.injEq] at h <;> subst h <;> simp only [Op.intCmp, quiet_pure, beq_dec, bne] <;> rfl
theorem bits_ok {op : BinOp} {k : IntKind} {p q : Int} (h : op = .and ∨ op = .or ∨ op = .xor ∨ op = .andNot) : quiet P (Op.intBits op k p q) = some (.int k (bitsOf op k p q)) := by
  rcases h with rfl | rfl | rfl | rfl <;> rfl
theorem run_bin {op : BinOp} {T0 U : TypeId} {x y : Operand} {p q v : Value} (ho : o.op = .binOp op T0 x y U) (hx : a.eval x = p) (hy : a.eval y = q) (hgd : eqGuard op T0 x y p q = pure ()) (h : quiet P (binOp op T0 p q) = some v) : quiet P (execOp a.eval o) = some (.value v) := by
  simp only [execOp, ho, hx, hy, hgd, quiet_bind, quiet_pure, Option.bind_some, h]
theorem guard_int {op : BinOp} {T0 : TypeId} {x y : Operand} {k k' : IntKind} {p q : Int} : eqGuard op T0 x y (.int k p) (.int k' q) = pure () := by cases op <;> rfl
theorem guard_str {op : BinOp} {T0 : TypeId} {x y : Operand} {p q : ByteArray} : eqGuard op T0 x y (.string p) (.string q) = pure () := by cases op <;> rfl
theorem guard_bool {op : BinOp} {T0 : TypeId} {x y : Operand} {p q : Bool} : eqGuard op T0 x y (.bool p) (.bool q) = pure () := by cases op <;> rfl
theorem guard_slice {op : BinOp} {T0 : TypeId} {x y : Operand} {A B : Option Addr} {p q r s : Nat} : eqGuard op T0 x y (.slice A p q) (.slice B r s) = pure () := by cases op <;> rfl
theorem quiet_nil' {T0 e : TypeId} (h : P.underlying T0 = some (.slice e)) (A : Option Addr) (m c : Nat) : quiet P (Op.equal T0 (.slice A m c) (.slice none 0 0)) = some A.isNone := by
  have key : ∀ d, quiet P (Op.equalIn (d + 1) T0 (.slice A m c) (.slice none 0 0)) = some A.isNone := fun d => by
    cases A <;> simp [Op.equalIn, quiet_bind, h]
  exact key _
theorem slice_shape (hg : Good g st w) {v : T} {x : Value} (h : R g v x) : (∀ full e l, v = .sl full e l → ∃ A c, x = .slice A l.length c ∧ (l.length ≠ 0 → A.isNone = false)) ∧ (v = .nil → ∃ A c, x = .slice A 0 c) ∧
    (∀ e k ver l, v = .oa e k ver → arrOf st e k ver = some l → ∃ A c, x = .slice A l.length c ∧ (l.length ≠ 0 → A.isNone = false)) := by
  refine ⟨fun full e l hv => ?_, fun hv => ?_, fun e k ver l hv hl => ?_⟩ <;> subst hv
  · cases h with
    | sl _ _ _ A c h1 h2 h3 h4 => exact ⟨A, c, rfl, fun hn => by obtain ⟨b, off, cs, rfl, _⟩ := h4 (by rintro rfl; exact hn rfl); rfl⟩
  · cases h with
    | nil A => exact ⟨A, 0, rfl⟩
  · cases h with
    | oa _ _ _ oi A p1 p2 p3 p4 =>
      obtain ⟨oi', q1, q2, _⟩ := hg.arr (arrOf_some hl)
      rw [p1] at q1
      injection q1 with q1
      subst q1
      rw [← q2]
      exact ⟨A, _, rfl, fun hn => by rw [p2 (by omega)]; rfl⟩
end
end Go.Proofs.YtoclmkbjgmgekaaDoor

/-
  The machine over typed values, 8: operators, slices, literals. No program in sight.
-/
namespace Go.Proofs.YtoclmkbjgmgekaaDoor
set_option linter.unusedVariables false
set_option linter.unusedSimpArgs false
set_option linter.unusedSectionVars false
open Go.RowKit
variable {P : Program} [Bd P]

section
variable {P : Program} [Bd P] {D : TD} {g : G P} {st : St} {w : World} {n : Nat} {t : Tm} {a : Act} {o : Oper} {K X : Kn}

theorem dnil_ok {op : BinOp} {T0 U : TypeId} {x y : Operand} {e : TypeId} {A : Option Addr} {m c : Nat} {B : Option Addr} {c' : Nat} (hg : Good g st w) (ho : o.op = .binOp op T0 x y U) (hu : P.underlying T0 = some (.slice e)) (hx : a.eval x = .slice A m c) (hy : a.eval y = .slice B 0 c') (hA : m ≠ 0 → A.isNone = false) (hB : B = none)
    (hc' : c' = 0) (h : dnil op m fun v => K v st) : DOk P o a g st w K X := by
  subst hB; subst hc'
  have hR : ∀ b, (m ≠ 0 → A.isNone = false) → (b = A.isNone) → K (if m = 0 then .ub else .bool false) st → ∃ v, R g v (.bool b) ∧ K v st := fun b h1 h2 h3 => by
    by_cases hm : m = 0
    · rw [if_pos hm] at h3; exact ⟨_, .ub b, h3⟩
    · rw [if_neg hm] at h3; rw [h2, h1 hm]; exact ⟨_, .bool _, h3⟩
  have hR2 : ∀ b, (m ≠ 0 → A.isNone = false) → (b = !A.isNone) → K (if m = 0 then .ub else .bool true) st → ∃ v, R g v (.bool b) ∧ K v st := fun b h1 h2 h3 => by
    by_cases hm : m = 0
    · rw [if_pos hm] at h3; exact ⟨_, .ub b, h3⟩
    · rw [if_neg hm] at h3; rw [h2, h1 hm]; exact ⟨_, .bool _, h3⟩
  unfold dnil at h
  split at h
  · obtain ⟨v, v1, v2⟩ := hR A.isNone hA rfl (by by_cases hm : m = 0 <;> simpa [hm] using h)
    exact dok_quiet (x := .bool A.isNone) hg (run_bin ho hx hy guard_slice (by simp only [binOp, quiet_bind, quiet_nil' hu, Option.bind_some, quiet_pure])) v1 v2
  · obtain ⟨v, v1, v2⟩ := hR2 (!A.isNone) hA rfl (by by_cases hm : m = 0 <;> simpa [hm] using h)
    exact dok_quiet (x := .bool (!A.isNone)) hg (run_bin ho hx hy guard_slice (by simp only [binOp, quiet_bind, quiet_nil' hu, Option.bind_some, quiet_pure])) v1 v2
  · exact h.elim
theorem R_nilc {x : Operand} (ht : RelT g n t a) (hx : x = .const (.slice none 0 0)) : a.eval x = .slice none 0 0 := by subst hx; rfl
theorem dok_bin (hD : TDok P D) (hg : Good g st w) (ht : RelT g n t a) {op : BinOp} {T0 U : TypeId} {x y : Operand} (ho : o.op = .binOp op T0 x y U) {ti : TI} (hti : tyOf D T0 = some ti) (h : dbin op ti (ev t x) (ev t y) fun v => K v st) : DOk P o a g st w K X := by
  have hX := ht.ev x
  have hY := ht.ev y
  unfold dbin at h
  generalize hvx : ev t x = vx at hX h
  generalize hvy : ev t y = vy at hY h
  generalize hex : a.eval x = ex at hX
  generalize hey : a.eval y = ey at hY
  split at h
  · rename_i k p k' q
    cases hX; cases hY
    split at h
    · obtain ⟨h0, hK⟩ := h
      refine dok_quiet hg (run_bin ho hex hey guard_int ?_) (.int _ _) hK
      simp only [binOp, Op.shift]
      rw [if_neg (by omega)]; rfl
    · obtain ⟨h0, hK⟩ := h
      refine dok_quiet hg (run_bin ho hex hey guard_int ?_) (.int _ _) hK
      simp only [binOp, Op.shift]
      rw [if_neg (by omega)]; rfl
    · rename_i hs1 hs2
      split at h
      case h_2 => exact h.elim
      rename_i hk
      have hk := of_decide_eq_true hk
      subst hk
      have hrun : ∀ {v}, quiet P (binOp op T0 (.int k p) (.int k q)) = some v → quiet P (execOp a.eval o) = some (.value v) := fun h => run_bin ho hex hey guard_int h
      cases op
      case shl => exact absurd rfl hs1
      case shr => exact absurd rfl hs2
      case add => exact dok_quiet hg (hrun (by simp [binOp, Op.intArith])) (.int _ _) h
      case sub => exact dok_quiet hg (hrun (by simp [binOp, Op.intArith])) (.int _ _) h
      case mul => exact dok_quiet hg (hrun (by simp [binOp, Op.intArith])) (.int _ _) h
      case quo => obtain ⟨h0, hK⟩ := h; exact dok_quiet hg (hrun (by simp [binOp, Op.intDiv, h0])) (.int _ _) hK
      case rem => obtain ⟨h0, hK⟩ := h; exact dok_quiet hg (hrun (by simp [binOp, Op.intDiv, h0])) (.int _ _) hK
      case and => refine dok_quiet hg (hrun ?_) (.int _ _) h; simp only [binOp, ne_eq, not_true_eq_false, if_false]; exact bits_ok (by decide)
      case or => refine dok_quiet hg (hrun ?_) (.int _ _) h; simp only [binOp, ne_eq, not_true_eq_false, if_false]; exact bits_ok (by decide)
      case xor => refine dok_quiet hg (hrun ?_) (.int _ _) h; simp only [binOp, ne_eq, not_true_eq_false, if_false]; exact bits_ok (by decide)
      case andNot => refine dok_quiet hg (hrun ?_) (.int _ _) h; simp only [binOp, ne_eq, not_true_eq_false, if_false]; exact bits_ok (by decide)
      all_goals
        simp only [dcmp] at h
        refine dok_quiet hg (hrun ?_) (.bool _) h
        simp only [binOp, ne_eq, not_true_eq_false, if_false]
        exact cmp_ok rfl
  · rename_i p q
    cases hX; cases hY
    have key : P.underlying T0 = some .bool → ∀ d, quiet P (Op.equalIn (d + 1) T0 (.bool p) (.bool q)) = some (decide (p = q)) := fun hu d => by
      simp only [Op.equalIn, quiet_bind, quiet_under, hu, Option.bind_some, quiet_pure]; congr 1
    split at h
    · rename_i hs
      obtain ⟨d, h1, _, h3⟩ := (hD _ _ hti).under
      rw [hs] at h3
      refine dok_quiet hg (run_bin ho hex hey guard_bool ?_) (.bool _) h
      have := key (by rw [h1]; exact congrArg some h3) 9999
      simp only [binOp, quiet_bind, Op.equal]
      show (quiet P (Op.equalIn (9999 + 1) T0 (.bool p) (.bool q))).bind _ = _
      rw [this]; rfl
    · rename_i hs
      obtain ⟨d, h1, _, h3⟩ := (hD _ _ hti).under
      rw [hs] at h3
      refine dok_quiet hg (run_bin ho hex hey guard_bool ?_) (.bool _) h
      have := key (by rw [h1]; exact congrArg some h3) 9999
      simp only [binOp, quiet_bind, Op.equal]
      show (quiet P (Op.equalIn (9999 + 1) T0 (.bool p) (.bool q))).bind _ = _
      rw [this]; rfl
    · exact h.elim
  · rename_i p q
    cases hX; cases hY
    have hrun : ∀ {v}, quiet P (Op.stringOp op p q) = some v → quiet P (execOp a.eval o) = some (.value v) := fun h => run_bin ho hex hey guard_str (by cases op <;> first | exact h | (simp [Op.stringOp, stuck, quiet] at h; done))
    split at h
    · obtain ⟨hr, hK⟩ := h
      refine dok_quiet hg (hrun ?_) (.str _) hK
      simp only [Op.stringOp]
      rw [if_neg (by simp [IntKind.max, IntKind.signed, IntKind.bits]; omega)]; rfl
    · exact dok_quiet hg (hrun (by simp only [Op.stringOp, bytes_dec']; rfl)) (.bool _) h
    · exact dok_quiet hg (hrun (by simp only [Op.stringOp, bytes_dec']; rfl)) (.bool _) h
    · exact dok_quiet hg (hrun (by simp only [Op.stringOp]; rfl)) (.bool _) h
    · exact dok_quiet hg (hrun (by simp only [Op.stringOp, bytes_dec']; rfl)) (.bool _) h
    · exact dok_quiet hg (hrun (by simp only [Op.stringOp, bytes_dec']; rfl)) (.bool _) h
    · exact dok_quiet hg (hrun (by simp only [Op.stringOp]; rfl)) (.bool _) h
    · exact h.elim
  · rename_i xs ys
    have hX0 := hX
    have hY0 := hY
    cases hX; cases hY
    rename_i us k1 k2 k3 vs k4 k5 k6
    have hp : quiet P (program : Sem Program) = some P := rfl
    split at h
    · rename_i ks b hks hb
      split at h
      case h_2 => exact h.elim
      rename_i hl
      obtain ⟨e1, e2⟩ := (hD _ _ hti).eqs ks hks xs ys us vs g b (of_decide_eq_true hl) (by rwa [show eqKs ti = ks from by unfold eqKs; rw [hks]] at hb) hX0 hY0
      refine dok_quiet hg ?_ (.bool b) h
      simp only [execOp, ho, hex, hey, eqGuard, binOp, quiet_bind, Bool.not_true, Bool.false_eq_true, if_false, hp, Option.bind_some, e2, Bool.not_false, if_true, quiet_pure, e1]
    · rename_i ks b hks hb
      split at h
      case h_2 => exact h.elim
      rename_i hl
      obtain ⟨e1, e2⟩ := (hD _ _ hti).eqs ks hks xs ys us vs g b (of_decide_eq_true hl) (by rwa [show eqKs ti = ks from by unfold eqKs; rw [hks]] at hb) hX0 hY0
      refine dok_quiet hg ?_ (.bool (!b)) h
      simp only [execOp, ho, hex, hey, eqGuard, binOp, quiet_bind, Bool.not_true, Bool.false_eq_true, if_false, hp, Option.bind_some, e2, Bool.not_false, if_true, quiet_pure, e1]
    · exact h.elim
  · exact h.elim
theorem dok_binNil (hD : TDok P D) (hg : Good g st w) (ht : RelT g n t a) {op : BinOp} {T0 U : TypeId} {x y : Operand} (ho : o.op = .binOp op T0 x y U) {ti : TI} (hti : tyOf D T0 = some ti) (hy : y = .const (.slice none 0 0))
    (h : dbinNil op ti st (ev t x) fun v => K v st) : DOk P o a g st w K X := by
  have hX := ht.ev x
  unfold dbinNil at h
  generalize hvx : ev t x = vx at hX h
  generalize hex : a.eval x = ex at hX
  have hey : a.eval y = .slice none 0 0 := by subst hy; rfl
  obtain ⟨s1, s2, s3⟩ := slice_shape hg hX
  split at h
  case h_2 => exact h.elim
  rename_i e hs
  have hu := slice_under (hD _ _ hti) hs
  split at h
  · obtain ⟨A, c, rfl⟩ := s2 rfl
    exact dnil_ok hg ho hu hex hey (fun h => absurd rfl h) rfl rfl h
  · rename_i full e l
    obtain ⟨A, c, rfl, hA⟩ := s1 full e l rfl
    exact dnil_ok hg ho hu hex hey hA rfl rfl h
  · rename_i e k ver
    split at h
    · rename_i l hl
      obtain ⟨A, c, rfl, hA⟩ := s3 e k ver l rfl hl
      exact dnil_ok hg ho hu hex hey hA rfl rfl h
    · exact h.elim
  · exact h.elim
theorem dok_un (hg : Good g st w) (ht : RelT g n t a) {op : UnOp} {T0 : TypeId} {x : Operand} (ho : o.op = .unOp op T0 x) (h : dun op (ev t x) fun v => K v st) : DOk P o a g st w K X := by
  have hX := ht.ev x
  unfold dun at h
  generalize hvx : ev t x = vx at hX h
  generalize hex : a.eval x = ex at hX
  split at h
  · cases hX
    exact dok_quiet hg (by simp [execOp, ho, hex, Op.unary, quiet_bind]) (.bool _) h
  · cases hX
    exact dok_quiet hg (by simp [execOp, ho, hex, Op.unary, Op.intArith, quiet_bind]) (.int _ _) h
  · cases hX
    rename_i k m
    refine dok_quiet hg (v := .int k (bitsOf .xor k (match k.signed with | true => -1 | false => k.max) m)) (x := .int k (bitsOf .xor k (match k.signed with | true => -1 | false => k.max) m)) ?_ (.int _ _) h
    have : (if k.signed = true then (-1 : Int) else k.max) = match k.signed with | true => -1 | false => k.max := by cases k.signed <;> rfl
    simp only [execOp, ho, hex, Op.unary, this, quiet_bind, bits_ok (P := P) (op := .xor) (k := k) (p := match k.signed with | true => -1 | false => k.max) (q := m) (by simp), Option.bind_some, quiet_pure]
  · exact h.elim
theorem encs_u8 {e : El} {f : List (ty e) → List Int} (hf : u8to e = some f) (l : List (ty e)) : encs e l = (f l).map (T.int .u8) ∧ (f l).length = l.length := by
  have h := u8to_ok hf l
  refine ⟨?_, by have := congrArg List.length h; simpa using this.symm⟩
  unfold encs
  rw [h]
  induction f l with
  | nil => rfl
  | cons n r ih => simp [ih]
theorem sl_bytes (hg : Good g st w) {full : Bool} {e : El} {l : List (ty e)} {x : Value} (hR : R g (.sl full e l) x) {f : List (ty e) → List Int} (hf : u8to e = some f) :
    ∃ A c, x = .slice A l.length c ∧ (A = none → f l = []) ∧ ∀ a0, A = some a0 → (loadCells a0 l.length).run P w = .ok ((f l).map (Value.int .u8)).toArray w := by
  obtain ⟨he, hlen⟩ := encs_u8 hf l
  cases hR with
  | sl _ _ _ A c h1 h2 h3 h4 =>
    refine ⟨A, c, rfl, fun hA => ?_, fun a0 hA => ?_⟩
    · by_cases hl : l = []
      · subst hl; exact List.eq_nil_of_length_eq_zero (by simpa using hlen)
      · obtain ⟨b, off, cs, k1, _⟩ := h4 hl
        rw [hA] at k1; cases k1
    · have hcells : ∀ (j : Nat) (v : Value), ((f l).map (Value.int .u8))[j]? = some v → w.cell? (a0.add j) = some v := fun j v hj => by
        simp only [List.getElem?_map, Option.map_eq_some_iff] at hj
        obtain ⟨q, hq, rfl⟩ := hj
        have hl : l ≠ [] := by
          rintro rfl
          have : f [] = [] := List.eq_nil_of_length_eq_zero (by simpa using hlen)
          rw [this] at hq; simp at hq
        obtain ⟨b, off, cs, k1, k2, k3⟩ := h4 hl
        rw [hA] at k1
        injection k1 with k1
        subst k1
        obtain ⟨blk, E, fr, p1, p2⟩ := hg.ro b cs k2
        have hrow := RowAt.ofR p2 p1 off (l.length * sz e) (by rw [k3]; exact encs_pure)
        rw [k3, he] at hrow
        obtain ⟨y, y1, _, y3⟩ := hrow j (.int .u8 q) (by rw [List.getElem?_map, hq]; rfl)
        cases y3
        rw [Addr.add_lit]; exact y1
      have := run_loadCells_list (P := P) w a0 _ hcells
      simpa [hlen] using this
theorem oa_bytes (hg : Good g st w) {e : El} {k ver : Nat} {l : List (ty e)} {x : Value} (hR : R g (.oa e k ver) x) (hl : arrOf st e k ver = some l) {f : List (ty e) → List Int} (hf : u8to e = some f) :
    ∃ A c, x = .slice A l.length c ∧ (A = none → f l = []) ∧ ∀ a0, A = some a0 → (loadCells a0 l.length).run P w = .ok ((f l).map (Value.int .u8)).toArray w := by
  obtain ⟨he, hlen⟩ := encs_u8 hf l
  cases hR with
  | oa _ _ _ oi A p1 p2 p3 p4 =>
    obtain ⟨oi', q1, q2, q3, _, q5⟩ := hg.arr (arrOf_some hl)
    rw [p1] at q1
    injection q1 with q1
    subst q1
    rw [q2]
    by_cases hc : oi.cap = 0
    · have hl0 : l = [] := List.eq_nil_of_length_eq_zero (by omega)
      subst hl0
      have hf0 : f [] = [] := List.eq_nil_of_length_eq_zero (by simpa using hlen)
      refine ⟨A, oi.cap, rfl, fun _ => hf0, fun a0 hA => ?_⟩
      have := run_loadCells_list (P := P) w a0 [] (by simp)
      rw [hf0]
      simpa using this
    · obtain ⟨_, blk, E, fr, b1, _, b3, _⟩ := q5 hc
      have hA := p2 hc
      subst hA
      refine ⟨_, oi.cap, rfl, fun h => (by cases h), fun a0 hA => ?_⟩
      injection hA with hA
      subst hA
      have hcells : ∀ (j : Nat) (v : Value), ((f l).map (Value.int .u8))[j]? = some v → w.cell? ((⟨oi.b, 0, none⟩ : Addr).add j) = some v := fun j v hj => by
        simp only [List.getElem?_map, Option.map_eq_some_iff] at hj
        obtain ⟨q, hq, rfl⟩ := hj
        have hrow := RowAt.of b3 b1 0
        rw [List.drop_zero, he] at hrow
        obtain ⟨y, y1, _, y3⟩ := hrow j (.int .u8 q) (by rw [List.getElem?_map, hq]; rfl)
        cases y3
        rw [Addr.add_lit]; exact y1
      have := run_loadCells_list (P := P) w ⟨oi.b, 0, none⟩ _ hcells
      simpa [hlen] using this
theorem as_bytes (hg : Good g st w) {k n : Nat} {cs : List T} {l : List Int} {x : Value} (hR : R g (.as k n) x) (hr : rd st k = some (.cells cs)) (hm : meHead cs = false) (hl : cellsU8 cs = some l) (hn : l.length = n) :
    ∃ a0, x = .slice (some a0) l.length l.length ∧ (loadCells a0 l.length).run P w = .ok (l.map (Value.int .u8)).toArray w := by
  cases hR with
  | as _ _ oi p1 =>
    obtain ⟨oi', o1, _, o3⟩ := hg.obj _ _ (rd_some.1 hr)
    have o1 : g.ob k 0 = some oi' := o1
    rw [p1] at o1
    injection o1 with o1
    subst o1
    rcases o3 with o3 | ⟨_, blk, E, fr, q1, _, q3, _⟩
    · cases o3.1
    simp only [isMp, hm] at q1
    have q1 : w.heap[oi.b]? = some (.cells blk E fr) := q1
    rw [hn]
    refine ⟨_, rfl, ?_⟩
    have hcells : ∀ (j : Nat) (v : Value), (l.map (Value.int .u8))[j]? = some v → w.cell? ((⟨oi.b, 0, none⟩ : Addr).add j) = some v := fun j v hj => by
      simp only [List.getElem?_map, Option.map_eq_some_iff] at hj
      obtain ⟨q, hq, rfl⟩ := hj
      have hrow := RowAt.of q3 q1 0
      rw [List.drop_zero] at hrow
      obtain ⟨y, y1, _, y3⟩ := hrow j (.int .u8 q) (by simp only [obCells]; rw [cellsU8_ok hl, List.getElem?_map, hq]; rfl)
      cases y3
      rw [Addr.add_lit]; exact y1
    have := run_loadCells_list (P := P) w ⟨oi.b, 0, none⟩ _ hcells
    rw [← hn]
    simpa using this
theorem dok_conv (hD : TDok P D) (hg : Good g st w) (ht : RelT g n t a) {s d : TypeId} {x : Operand} (ho : o.op = .convert s d x) (h : dconv D s d st (ev t x) K) : DOk P o a g st w K X := by
  have hX := ht.ev x
  unfold dconv at h
  generalize hvx : ev t x = vx at hX h
  generalize hex : a.eval x = ex at hX
  split at h
  case h_2 => exact h.elim
  rename_i ta tb hta htb
  obtain ⟨da, a1, _, a3⟩ := (hD _ _ hta).under
  obtain ⟨db, b1, _, b3⟩ := (hD _ _ htb).under
  split at h
  · rename_i k' m k hb
    cases hX
    rw [hb] at b3
    simp only [srtOk] at b3
    subst b3
    exact dok_quiet hg (by simp [execOp, ho, hex, convert, quiet_bind, a1, b1, Conv.intToInt]) (.int _ _) h
  · rename_i c ha hb
    cases hX
    rw [ha] at a3
    rw [hb] at b3
    simp only [srtOk] at a3 b3
    subst a3; subst b3
    exact dok_quiet hg (by simp [execOp, ho, hex, convert, quiet_bind, a1, b1]) (.str _) h
  · rename_i full e l t0 ha hb
    split at h
    case h_2 => exact h.elim
    rename_i te hte
    split at h
    case h_2 => exact h.elim
    rename_i f hs hf
    have hu8 : P.underlying t0 = some (.int .u8) := int_under (hD _ _ hte) hs
    rw [ha] at a3
    rw [hb] at b3
    simp only [srtOk] at a3 b3
    obtain ⟨rfl, _⟩ := a3
    subst b3
    obtain ⟨A, c, rfl, hload⟩ := sl_bytes hg hX hf
    refine dok_val (x := .string (bStr (f l))) hg ?_ (.str _) h
    simp only [execOp, ho, hex, Sem.run_bind, Sem.run_pure]
    rw [run_convert_bytes_string w s d t0 A l.length c a1 hu8 b1]
    cases A with
    | none =>
      have := hload.1 rfl
      simp [Conv.bytesToString, this, bStr, ByteArray.empty, ByteArray.emptyWithCapacity]
      rfl
    | some a0 =>
      rw [run_bytesToString w a0 l.length c (f l) (hload.2 a0 rfl), foldl_push_bytes]
      simp [bStr, ByteArray.empty, ByteArray.emptyWithCapacity]
      rfl
  · rename_i e k ver t0 ha hb
    split at h
    case h_2 => exact h.elim
    rename_i te hte
    split at h
    case h_2 => exact h.elim
    rename_i f l hs hf hl
    have hu8 : P.underlying t0 = some (.int .u8) := int_under (hD _ _ hte) hs
    rw [ha] at a3
    rw [hb] at b3
    simp only [srtOk] at a3 b3
    obtain ⟨rfl, _⟩ := a3
    subst b3
    obtain ⟨A, c, rfl, hload⟩ := oa_bytes hg hX hl hf
    refine dok_val (x := .string (bStr (f l))) hg ?_ (.str _) h
    simp only [execOp, ho, hex, Sem.run_bind, Sem.run_pure]
    rw [run_convert_bytes_string w s d t0 A l.length c a1 hu8 b1]
    cases A with
    | none =>
      have := hload.1 rfl
      simp [Conv.bytesToString, this, bStr, ByteArray.empty, ByteArray.emptyWithCapacity]
      rfl
    | some a0 =>
      rw [run_bytesToString w a0 l.length c (f l) (hload.2 a0 rfl), foldl_push_bytes]
      simp [bStr, ByteArray.empty, ByteArray.emptyWithCapacity]
      rfl
  · rename_i k n t0 ha hb
    split at h
    case h_2 => exact h.elim
    rename_i cs te hr hte
    split at h
    case h_2 => exact h.elim
    rename_i l hm hs hl
    split at h
    case h_2 => exact h.elim
    rename_i hd
    have hu8 : P.underlying t0 = some (.int .u8) := int_under (hD _ _ hte) hs
    rw [ha] at a3
    rw [hb] at b3
    simp only [srtOk] at a3 b3
    obtain ⟨rfl, _⟩ := a3
    subst b3
    obtain ⟨a0, rfl, hload⟩ := as_bytes hg hX hr hm hl (of_decide_eq_true hd)
    refine dok_val (x := .string (bStr l)) hg ?_ (.str _) h
    simp only [execOp, ho, hex, Sem.run_bind, Sem.run_pure]
    rw [run_convert_bytes_string w s d t0 (some a0) l.length l.length a1 hu8 b1, run_bytesToString w a0 l.length l.length l hload, foldl_push_bytes]
    simp [bStr, ByteArray.empty, ByteArray.emptyWithCapacity]
    rfl
  · exact h.elim
theorem dok_makeIf (hD : TDok P D) (hg : Good g st w) (ht : RelT g n t a) {T0 : TypeId} {x : Operand} (ho : o.op = .makeInterface T0 x) {ti : TI} (hti : tyOf D T0 = some ti) (hc : conc ti.srt = true) (h : K (.ic T0 (ev t x)) st) : DOk P o a g st w K X := by
  obtain ⟨d, hu, _, hs⟩ := (hD _ _ hti).under
  refine dok_quiet hg (x := .iface T0 (a.eval x)) ?_ (.ic _ _ _ (ht.ev x)) h
  have hd : ∀ ms, d ≠ .interface ms := by
    rintro ms rfl
    cases hsrt : ti.srt <;> rw [hsrt] at hs hc <;> simp [srtOk, conc] at hs hc
  simp only [execOp, ho, Instr.makeInterface, quiet_bind, quiet_under, hu, Option.bind_some]
  cases d <;> first | rfl | exact absurd rfl (hd _)
theorem dok_panic (hg : Good g st w) (ht : RelT g n t a) {x : Operand} (ho : o.op = .panic x) {T0 : TypeId} {v : T} (hv : ev t x = .ic T0 v) (h : X (.ic T0 v) st) : DOk P o a g st w K X := by
  have hR := ht.ev x
  rw [hv] at hR
  generalize he : a.eval x = ex at hR
  have hR' := hR
  cases hR
  rename_i y hy
  intro K' Q' _ hX
  unfold Oper.wp
  have hrun : (execOp a.eval o).run P w = .halt (.panic (.iface T0 y)) w := by simp [execOp, ho, he, Instr.panic, goPanic]
  rw [hrun]
  exact hX _ _ _ g w h hg (GL.refl g st) (fun _ => Step.refl) hR'
theorem dok_binIf (hD : TDok P D) (hg : Good g st w) (ht : RelT g n t a) {op : BinOp} {T0 U : TypeId} {x y : Operand} (ho : o.op = .binOp op T0 x y U) {ti : TI} (hti : tyOf D T0 = some ti) (hy : y = .const .nilIface)
    (h : dbinIf op ti (ev t x) fun v => K v st) : DOk P o a g st w K X := by
  have hX := ht.ev x
  unfold dbinIf at h
  generalize hvx : ev t x = vx at hX h
  generalize hex : a.eval x = ex at hX
  have hey : a.eval y = .nilIface := by subst hy; rfl
  split at h
  case h_2 => exact h.elim
  rename_i hs
  obtain ⟨d, hu, _, hs'⟩ := (hD _ _ hti).under
  rw [hs] at hs'
  obtain ⟨ms, rfl⟩ := hs'
  have k1 : ∀ t v d, quiet P (Op.equalIn (d + 1) T0 (.iface t v) .nilIface) = some false := fun t v d => by
    simp only [Op.equalIn, quiet_bind, quiet_under, hu, Option.bind_some, quiet_pure]
  have k2 : ∀ d, quiet P (Op.equalIn (d + 1) T0 .nilIface .nilIface) = some true := fun d => by
    simp only [Op.equalIn, quiet_bind, quiet_under, hu, Option.bind_some, quiet_pure]
  have e1 : ∀ t v, quiet P (Op.equal T0 (.iface t v) .nilIface) = some false := fun t v => k1 t v 9999
  have e2 : quiet P (Op.equal T0 .nilIface .nilIface) = some true := k2 9999
  have g1 : ∀ op t v, eqGuard op T0 x y (.iface t v) .nilIface = pure () := fun op t v => by cases op <;> rfl
  have g2 : ∀ op, eqGuard op T0 x y .nilIface .nilIface = pure () := fun op => by subst hy; cases op <;> cases x <;> rfl
  split at h
  · cases hX
    exact dok_quiet hg (run_bin ho hex hey (g1 _ _ _) (by simp only [binOp, quiet_bind, e1, Option.bind_some, quiet_pure])) (.bool _) h
  · cases hX
    exact dok_quiet hg (run_bin ho hex hey (g1 _ _ _) (by simp only [binOp, quiet_bind, e1, Option.bind_some, quiet_pure]; rfl)) (.bool _) h
  · cases hX
    exact dok_quiet hg (run_bin ho hex hey (g2 _) (by simp only [binOp, quiet_bind, e2, Option.bind_some, quiet_pure])) (.bool _) h
  · cases hX
    exact dok_quiet hg (run_bin ho hex hey (g2 _) (by simp only [binOp, quiet_bind, e2, Option.bind_some, quiet_pure]; rfl)) (.bool _) h
  · exact h.elim

/-! ### Slices -/
theorem quiet_bound {k : IntKind} {m : Int} {y : Nat} (code : BoundsCode) (h0 : 0 ≤ m) (h1 : m ≤ (y : Int)) : quiet P (Instr.sliceBound (.int k m) y code) = some m.toNat := by
  simp [Instr.sliceBound, asIntOf, quiet_bind, h0, h1]
theorem optInt_some {x : Option Operand} (ht : RelT g n t a) {d : Int} {K : Int → Prop} (h : optInt (x.map (ev t)) d K) : ∃ m, K m ∧ ((x = none ∧ m = d) ∨ ∃ x' k, x = some x' ∧ a.eval x' = .int k m) := by
  cases x with
  | none => exact ⟨d, h, .inl ⟨rfl, rfl⟩⟩
  | some x =>
    obtain ⟨k, m, h1, h2⟩ := asInt_some h
    exact ⟨m, h2, .inr ⟨x, k, rfl, R_int (by have := ht.ev x; rw [h1] at this; exact this)⟩⟩
/-- The bounds of a slice expression. -/
theorem boundsC_ok {lo hi : Option Operand} {len cap : Nat} {l h : Int} (b : Bool) (hc : len ≤ cap) (h0 : 0 ≤ l) (h1 : l ≤ h) (h2 : h ≤ (cap : Int)) (hl : (lo = none ∧ l = 0) ∨ ∃ x k, lo = some x ∧ a.eval x = .int k l) (hh : (hi = none ∧ h = len) ∨ ∃ x k, hi = some x ∧ a.eval x = .int k h) :
    quiet P (Instr.sliceBounds b len cap (lo.map a.eval) (hi.map a.eval) none) = some (l.toNat, h.toNat, cap) := by
  have kh : ∀ x k, hi = some x → a.eval x = .int k h → ∀ code, quiet P (Instr.sliceBound (a.eval x) cap code) = some h.toNat := fun x k e e' code => by rw [e']; exact quiet_bound code (by omega) (by omega)
  have kl : ∀ x k, lo = some x → a.eval x = .int k l → ∀ code, quiet P (Instr.sliceBound (a.eval x) h.toNat code) = some l.toNat := fun x k e e' code => by rw [e']; exact quiet_bound code (by omega) (by omega)
  rcases hh with ⟨rfl, rfl⟩ | ⟨x, k, rfl, hx⟩ <;> rcases hl with ⟨rfl, rfl⟩ | ⟨y, k', rfl, hy⟩
  · simp [Instr.sliceBounds, quiet_bind]
  · have := kl y k' rfl hy
    simp only [Int.toNat_natCast] at this
    simp [Instr.sliceBounds, quiet_bind, this]
  · simp [Instr.sliceBounds, quiet_bind, kh x k rfl hx]
  · simp [Instr.sliceBounds, quiet_bind, kh x k rfl hx, kl y k' rfl hy]
theorem bounds_ok {lo hi : Option Operand} {len cap : Nat} {l h : Int} (b : Bool) (hc : len ≤ cap) (h0 : 0 ≤ l) (h1 : l ≤ h) (h2 : h ≤ (len : Int)) (hl : (lo = none ∧ l = 0) ∨ ∃ x k, lo = some x ∧ a.eval x = .int k l) (hh : (hi = none ∧ h = len) ∨ ∃ x k, hi = some x ∧ a.eval x = .int k h) :
    quiet P (Instr.sliceBounds b len cap (lo.map a.eval) (hi.map a.eval) none) = some (l.toNat, h.toNat, cap) := boundsC_ok b hc h0 h1 (by omega) hl hh
theorem bounds3_ok {lo : Option Operand} {hi mx : Operand} {len cap : Nat} {l h m : Int} {k1 k2 : IntKind} (hc : len ≤ cap) (h0 : 0 ≤ l) (h1 : l ≤ h) (h2 : h ≤ m) (h3 : m ≤ (len : Int)) (hl : (lo = none ∧ l = 0) ∨ ∃ x k, lo = some x ∧ a.eval x = .int k l) (hh : a.eval hi = .int k1 h) (hm : a.eval mx = .int k2 m) :
    quiet P (Instr.sliceBounds true len cap (lo.map a.eval) (some (a.eval hi)) (some (a.eval mx))) = some (l.toNat, h.toNat, m.toNat) := by
  have km : ∀ code, quiet P (Instr.sliceBound (a.eval mx) cap code) = some m.toNat := fun code => by rw [hm]; exact quiet_bound code (by omega) (by omega)
  have kh : ∀ code, quiet P (Instr.sliceBound (a.eval hi) m.toNat code) = some h.toNat := fun code => by rw [hh]; exact quiet_bound code (by omega) (by omega)
  rcases hl with ⟨rfl, rfl⟩ | ⟨y, k', rfl, hy⟩
  · simp [Instr.sliceBounds, quiet_bind, km, kh]
  · have kl : ∀ code, quiet P (Instr.sliceBound (a.eval y) h.toNat code) = some l.toNat := fun code => by rw [hy]; exact quiet_bound code (by omega) (by omega)
    simp [Instr.sliceBounds, quiet_bind, km, kh, kl]
/-- A part of a slice that is only read. -/
theorem R_sub {full full' : Bool} {e : El} {xs : List (ty e)} {A : Option Addr} {k c l h m : Nat} (hR : R g (.sl full e xs) (.slice A k c)) (hlh : l ≤ h) (hhl : h ≤ xs.length) (hhm : h ≤ m) (hmc : m ≤ c) (hf : full' = true → h = m) :
    R g (.sl full' e ((xs.take h).drop l)) (.slice (if m = l then A else A.map (·.add (l * sz e))) (h - l) (m - l)) := by
  cases hR with
  | sl _ _ _ _ _ h1 h2 h3 h4 =>
    have hlen : ((xs.take h).drop l).length = h - l := by simp; omega
    rw [← hlen]
    refine .sl full' e _ _ _ (by omega) (by omega) (fun e => by have := hf e; omega) fun hne => ?_
    have hlt : l < h := by
      rcases Nat.lt_or_ge l h with h5 | h5
      · exact h5
      · exfalso; apply hne; apply List.eq_nil_of_length_eq_zero; omega
    obtain ⟨b, off, cs, rfl, hro, henc⟩ := h4 (by rintro rfl; simp at hhl; omega)
    rw [if_neg (by omega)]
    refine ⟨b, off + l * sz e, cs, by simp [Addr.add_lit], hro, ?_⟩
    rw [hlen, ← encs_drop, ← encs_take, ← henc, List.take_take, List.drop_take, List.drop_drop]
    have : h * sz e ≤ xs.length * sz e := Nat.mul_le_mul_right _ hhl
    rw [Nat.min_eq_left this, Nat.sub_mul]
theorem R_slshape {full : Bool} {e : El} {l : List (ty e)} {x : Value} (h : R g (.sl full e l) x) : ∃ A c, x = .slice A l.length c ∧ l.length ≤ c ∧ c ≤ maxLen ∧ (full = true → c = l.length) := by
  cases h with
  | sl _ _ _ A c h1 h2 h3 h4 => exact ⟨A, c, rfl, h1, h2, h3⟩
theorem dok_slice (hD : TDok P D) (hg : Good g st w) (ht : RelT g n t a) {T0 : TypeId} {x : Operand} {lo hi mx : Option Operand} (ho : o.op = .slice T0 x lo hi mx) {ti : TI} (hti : tyOf D T0 = some ti)
    (h : dsl D ti T0 st (ev t x) (lo.map (ev t)) (hi.map (ev t)) (mx.map (ev t)) fun v => K v st) : DOk P o a g st w K X := by
  have hR := ht.ev x
  generalize hv : ev t x = xv at hR h
  generalize he : a.eval x = ex at hR
  unfold dsl at h
  split at h
  · rename_i hs
    have hu := str_under (hD _ _ hti) hs
    cases mx with
    | some mx => cases xv <;> exact h.elim
    | none =>
    cases xv <;> (try exact h.elim)
    rename_i b
    cases hR
    obtain ⟨hh, h, h1⟩ := optInt_some ht h
    obtain ⟨l, h, h2⟩ := optInt_some ht h
    obtain ⟨q0, q1, q2, hK⟩ := h
    have := bounds_ok (P := P) false (Nat.le_refl _) q0 q1 q2 h2 h1
    exact dok_quiet hg (by simp [execOp, ho, Instr.sliceAt, Instr.slice, he, quiet_bind, hu, this]) (.str _) hK
  · rename_i te hs
    have hu := slice_under (hD _ _ hti) hs
    split at h
    case h_2 => exact h.elim
    rename_i e0 hk
    obtain ⟨t', i, hu', hi1, hsz⟩ := kind_some hD hk
    rw [hu] at hu'
    injection hu' with hu'
    injection hu' with hu'
    subst hu'
    unfold dslice at h
    cases mx with
    | some mx =>
      simp only [Option.map_some] at h
      cases hi with
      | none => exact h.elim
      | some hi =>
        simp only [Option.map_some] at h
        split at h
        · rename_i full e xs
          split at h
          case isFalse => exact h.elim
          rename_i he0
          subst he0
          obtain ⟨k1, m, hm, h⟩ := asInt_some h
          have hm' := R_int (by have := ht.ev mx; rw [hm] at this; exact this)
          obtain ⟨l, h, h2⟩ := optInt_some ht h
          obtain ⟨k2, r, hr, h⟩ := asInt_some h
          have hr' := R_int (by have := ht.ev hi; rw [hr] at this; exact this)
          obtain ⟨q0, q1, q2, q3, hK⟩ := h
          obtain ⟨A, c, rfl, p1, p2, p3⟩ := R_slshape hR
          have := bounds3_ok (P := P) (len := xs.length) (cap := c) p1 q0 q1 (by omega) q3 h2 hr' hm'
          refine dok_quiet (x := .slice (if m.toNat = l.toNat then A else A.map (·.add (l.toNat * sz e0))) (r.toNat - l.toNat) (m.toNat - l.toNat)) hg ?_ (R_sub hR (by omega) (by omega) (by omega) (by omega) (fun _ => by omega)) hK
          simp [execOp, ho, Instr.sliceAt, Instr.slice, he, quiet_bind, hu, this, hi1, hsz]
        · obtain ⟨k1, m, hm, h⟩ := asInt_some h
          have hm' := R_int (by have := ht.ev mx; rw [hm] at this; exact this)
          obtain ⟨l, h, h2⟩ := optInt_some ht h
          obtain ⟨k2, r, hr, h⟩ := asInt_some h
          have hr' := R_int (by have := ht.ev hi; rw [hr] at this; exact this)
          obtain ⟨q0, q1, q2, hK⟩ := h
          subst q0; subst q1; subst q2
          cases hR with
          | nil A =>
            have := bounds3_ok (P := P) (len := 0) (cap := 0) (l := 0) (h := 0) (m := 0) (Nat.le_refl _) (by omega) (by omega) (by omega) (by simp) h2 hr' hm'
            refine dok_quiet (x := .slice A 0 0) hg ?_ (.nil A) hK
            simp only [Int.toNat_zero] at this
            simp [execOp, ho, Instr.sliceAt, Instr.slice, he, quiet_bind, hu, this, hi1]
        · exact h.elim
    | none =>
      simp only [Option.map_none] at h
      split at h
      · rename_i full e xs
        split at h
        case isFalse => exact h.elim
        rename_i he0
        subst he0
        obtain ⟨A, c, rfl, p1, p2, p3⟩ := R_slshape hR
        cases hi with
        | some hi =>
          simp only [Option.map_some] at h
          obtain ⟨k2, r, hr, h⟩ := asInt_some h
          have hr' := R_int (by have := ht.ev hi; rw [hr] at this; exact this)
          obtain ⟨l, h, h2⟩ := optInt_some ht h
          obtain ⟨q0, q1, q2, hK⟩ := h
          have := bounds_ok (P := P) (hi := some hi) true p1 q0 q1 q2 h2 (.inr ⟨hi, k2, rfl, hr'⟩)
          simp only [Option.map_some] at this
          have main : ∀ full', (full' = true → r.toNat = c) → K (.sl full' e0 ((xs.take r.toNat).drop l.toNat)) st → DOk P o a g st w K X := fun full' hf hK => by
            refine dok_quiet (x := .slice (if c = l.toNat then A else A.map (·.add (l.toNat * sz e0))) (r.toNat - l.toNat) (c - l.toNat)) hg ?_ (R_sub hR (by omega) (by omega) (by omega) (Nat.le_refl _) hf) hK
            simp [execOp, ho, Instr.sliceAt, Instr.slice, he, quiet_bind, hu, this, hi1, hsz]
          cases full with
          | false => exact main false (by simp) hK
          | true =>
            simp only at hK
            by_cases hd : r = (xs.length : Int)
            · rw [decide_eq_true hd, cond_true] at hK
              exact main true (fun _ => by have := p3 rfl; omega) hK
            · rw [decide_eq_false hd, cond_false] at hK
              exact main false (by simp) hK
        | none =>
          simp only [Option.map_none] at h
          obtain ⟨l, h, h2⟩ := optInt_some ht h
          obtain ⟨q0, q1, hK⟩ := h
          have := bounds_ok (P := P) (hi := none) (h := (xs.length : Int)) true p1 q0 q1 (by omega) h2 (.inl ⟨rfl, rfl⟩)
          simp only [Option.map_none, Int.toNat_natCast] at this
          have hsub := R_sub (full' := full) (l := l.toNat) (h := xs.length) (m := c) hR (by omega) (Nat.le_refl _) p1 (Nat.le_refl _) (fun e => (p3 e).symm)
          rw [List.take_of_length_le (Nat.le_refl _)] at hsub
          refine dok_quiet (x := .slice (if c = l.toNat then A else A.map (·.add (l.toNat * sz e0))) (xs.length - l.toNat) (c - l.toNat)) hg ?_ hsub hK
          simp [execOp, ho, Instr.sliceAt, Instr.slice, he, quiet_bind, hu, this, hi1, hsz]
      · obtain ⟨r, h, h1⟩ := optInt_some ht h
        obtain ⟨l, h, h2⟩ := optInt_some ht h
        obtain ⟨q0, q1, hK⟩ := h
        subst q0; subst q1
        cases hR with
        | nil A =>
          have := bounds_ok (P := P) (len := 0) (cap := 0) (l := 0) (h := 0) true (Nat.le_refl _) (by omega) (by omega) (by simp) h2 h1
          simp only [Int.toNat_zero] at this
          refine dok_quiet (x := .slice A 0 0) hg ?_ (.nil A) hK
          simp [execOp, ho, Instr.sliceAt, Instr.slice, he, quiet_bind, hu, this, hi1]
      · rename_i e k ver
        split at h
        case isFalse => exact h.elim
        rename_i he0
        subst he0
        split at h
        case h_2 => exact h.elim
        rename_i xs hl
        obtain ⟨r, h, h1⟩ := optInt_some ht h
        obtain ⟨l, h, h2⟩ := optInt_some ht h
        obtain ⟨q0, q1, q2, hK⟩ := h
        cases hR with
        | oa _ _ _ oi A p1 p2 p3 p4 =>
          obtain ⟨oi', a1, a2, _⟩ := hg.arr (arrOf_some hl)
          rw [p1] at a1
          injection a1 with a1
          subst a1
          rw [← a2] at q2 h1
          have := bounds_ok (P := P) true p3 q0 q1 q2 h2 h1
          refine dok_quiet (x := .slice (if oi.cap = l.toNat then A else A.map (·.add (l.toNat * sz e0))) (r.toNat - l.toNat) (oi.cap - l.toNat)) hg ?_ (.os e0 k ver _ _ oi _ _ p1 (by omega) (fun hn => ?_) (by omega) (by omega) p3) hK
          · simp [execOp, ho, Instr.sliceAt, Instr.slice, he, quiet_bind, hu, this, hi1, hsz]
          · rw [if_neg (by omega), p2 (by omega)]
            simp [Addr.add_lit]
      · rename_i e k ver off m
        split at h
        case isFalse => exact h.elim
        rename_i he0
        subst he0
        split at h
        case h_2 => exact h.elim
        rename_i xs hl
        obtain ⟨r, h, h1⟩ := optInt_some ht h
        obtain ⟨l, h, h2⟩ := optInt_some ht h
        obtain ⟨q0, q1, q2, hK⟩ := h
        cases hR with
        | os _ _ _ _ _ oi A c p1 p2 p3 p4 p5 p6 =>
          obtain ⟨oi', a1, a2, _⟩ := hg.arr (arrOf_some hl)
          rw [p1] at a1
          injection a1 with a1
          subst a1
          have := boundsC_ok (P := P) (len := m) (cap := c) true (by omega) q0 q1 (by omega) h2 h1
          refine dok_quiet (x := .slice (if c = l.toNat then A else A.map (·.add (l.toNat * sz e0))) (r.toNat - l.toNat) (c - l.toNat)) hg ?_ (.os e0 k ver _ _ oi _ _ p1 (by omega) (fun hn => ?_) (by omega) (by omega) p6) hK
          · simp [execOp, ho, Instr.sliceAt, Instr.slice, he, quiet_bind, hu, this, hi1, hsz]
          · rw [if_neg (by omega), p3 (by omega)]
            simp [Addr.add_lit, Nat.add_mul]
      · exact h.elim
  · rename_i n te hs
    have hu := array_under (hD _ _ hti) hs
    cases xv <;> (try exact h.elim)
    rename_i k off
    cases off with
    | succ _ => exact h.elim
    | zero =>
    cases lo with
    | some _ => exact h.elim
    | none =>
    cases hi with
    | some _ => exact h.elim
    | none =>
    cases mx with
    | some _ => exact h.elim
    | none =>
    simp only [Option.map_none] at h
    cases e5 : tyOf D te with
    | none => rw [e5] at h; exact h.elim
    | some tt =>
    rw [e5] at h
    obtain ⟨ii, hi1, _⟩ := (hD _ _ e5).info
    cases hR with
    | pt _ _ oi p1 =>
      have hb : quiet P (Instr.sliceBounds false n n none none none) = some (0, n, n) := by simp [Instr.sliceBounds, quiet_bind]
      refine dok_quiet (x := .slice (some ⟨oi.b, 0, none⟩) n n) hg ?_ (.as k n oi p1) h
      simp [execOp, ho, Instr.sliceAt, Instr.sureAddr, he, quiet_bind, hu, hb, hi1, Addr.add_lit]
  · exact h.elim
end
end Go.Proofs.YtoclmkbjgmgekaaDoor
