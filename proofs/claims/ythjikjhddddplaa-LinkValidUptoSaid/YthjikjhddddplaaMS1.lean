/-
  The machine over typed values, 5: its operations are the model's: what only reckons. No program in sight.
-/
import Derived.Test.YthjikjhddddplaaMO
import Derived.Test.YthjikjhddddplaaMW
namespace Go.Proofs.Ythjikjhddddplaa
set_option linter.unusedVariables false
set_option linter.unusedSimpArgs false
open Go.RowKit

def srtOk (P : Program) (d : TypeDesc) : Srt → Prop
  | .slice e => d = .slice e ∧ (P.info? e).isSome = true
  | .array n e => d = .array n e
  | .struct fs => ∃ fields, d = .struct fields ∧ (fs = fields.toList.map fun f => (f.offset, f.type)) ∧ (fields.toList.all fun f => (P.info? f.type).isSome) = true
  | .string => d = .string
  | .int k => d = .int k
  | .bool => d = .bool
  | .other => True
structure TIok (P : Program) (t : TypeId) (ti : TI) : Prop where
  under : ∃ d, P.underlying t = some d ∧ aggDesc d = ti.agg ∧ srtOk P d ti.srt
  info : ∃ i, P.info? t = some i ∧ i.size = ti.size ∧ i.bytes = ti.bytes ∧ ∀ z, ti.zero = some z → (∃ x, i.zero = some x ∧ cellsOf (tval x) = some z) ∧ z.length = ti.size
  el : ∀ e, ti.el = some e → sz e = ti.size ∧ 0 < ti.bytes
  eqs : ∀ ks, ti.eqs = some ks → ∀ (xs ys : List T) (vs us : Array Value) (g : G) (b : Bool), xs.length = ks.length → eqCells ks xs ys = some b → R g (.ag xs) (.agg vs) → R g (.ag ys) (.agg us) →
    quiet P (Op.equal t (.agg vs) (.agg us)) = some b ∧ P.eqGuardType P.depth t = false
abbrev TDok (P : Program) (D : TD) : Prop := ∀ t ti, tyOf D t = some ti → TIok P t ti

section
variable {P : Program} {D : TD} {g : G} {st : St} {w : World} {n : Nat} {t : Tm} {a : Act} {o : Oper} {K X : Kn}

theorem R_tcell (v : Value) : R g (tcell v) v := by
  unfold tcell
  split
  · exact .nil none
  · exact .int _ _
  · exact .bool _
  · exact .str _
  · rename_i f xs ys
    split
    · rename_i h
      obtain ⟨h1, h2⟩ := h
      have e1 : xs = #[] := by simpa using h1
      have e2 : ys = #[] := by simpa using h2
      subst e1; subst e2
      exact .fn f [] [] _ _ rfl rfl (by simp) (by simp)
    · exact .cst _
  · exact .cst _
theorem R_tval (v : Value) : R g (tval v) v := by
  unfold tval
  split
  · rename_i cs
    split
    · rename_i h
      refine .ag _ _ (by simp) (fun i c x hc hx => ?_) (fun i x hx => ?_)
      · simp only [List.getElem?_map, Array.getElem?_toList, hx, Option.map_some, Option.some.injEq] at hc
        rw [← hc]; exact R_tcell x
      · exact List.all_eq_true.1 h x (by simpa using Array.mem_of_getElem? hx)
    · exact .cst _
  · exact R_tcell v
theorem RelT.ev (h : RelT g n t a) (x : Operand) : R g (ev t x) (a.eval x) := by
  cases x with
  | tmp i => exact h.val i
  | const v => exact R_tval v
  | global g => exact .cst _
  | func f => exact .fn f [] [] _ _ rfl rfl (by simp) (by simp)
theorem R_one {v : T} {x : Value} (h : R g v x) (hv : v.one = true) : x.oneCell' = true := by
  cases h with
  | cst v => exact hv
  | undef => simp [T.one] at hv
  | ag => simp [T.one] at hv
  | tu => simp [T.one] at hv
  | _ => rfl
theorem R_cells {v : T} {x : Value} {cs : List T} (h : R g v x) (hc : cellsOf v = some cs) :
    x.cells.size = cs.length ∧ ∀ (i : Nat) (c : T), cs[i]? = some c → ∃ y, x.cells[i]? = some y ∧ y.oneCell' = true ∧ R g c y := by
  by_cases hv : v.one = true
  · have h1 := R_one h hv
    rw [cells_one h1]
    have : cs = [v] := by
      cases v <;> simp_all [cellsOf, T.one]
    subst this
    refine ⟨rfl, fun i c hi => ?_⟩
    cases i with
    | zero => simp at hi; subst hi; exact ⟨x, rfl, h1, h⟩
    | succ i => simp at hi
  · cases h with
    | ag cs' xs h1 h2 h3 =>
      simp only [cellsOf, Option.some.injEq] at hc
      subst hc
      refine ⟨h1.symm, fun i c hi => ?_⟩
      have hlt : i < xs.size := by rw [← h1]; exact (List.getElem?_eq_some_iff.1 hi).1
      exact ⟨xs[i], by simp [Value.cells, hlt], h3 i _ (by simp [hlt]), h2 i c _ hi (by simp [hlt])⟩
    | _ => simp [cellsOf, hv] at hc
theorem R_ag_cells {v : T} {x : Value} {cs : List T} (h : R g v x) (hc : cellsOf v = some cs) : R g (.ag cs) (.agg x.cells) := by
  obtain ⟨h1, h2⟩ := R_cells h hc
  refine .ag _ _ h1.symm (fun i c y hi hy => ?_) (fun i y hy => ?_)
  · obtain ⟨z, z1, _, z3⟩ := h2 i c hi
    rw [z1] at hy; injection hy with hy; subst hy; exact z3
  · have hlt : i < cs.length := by rw [← h1]; exact (Array.getElem?_eq_some_iff.1 hy).1
    obtain ⟨z, z1, z2, _⟩ := h2 i cs[i] (by simp)
    rw [z1] at hy; injection hy with hy; subst hy; exact z2
theorem R_zero {ti : TI} {T0 : TypeId} (hT : TIok P T0 ti) {z : List T} (h : ti.zero = some z) : ∃ i x, P.info? T0 = some i ∧ i.zero = some x ∧ R g (.ag z) (.agg x.cells) := by
  obtain ⟨i, h1, _, _, h4⟩ := hT.info
  obtain ⟨⟨x, h5, h6⟩, _⟩ := h4 z h
  exact ⟨i, x, h1, h5, R_ag_cells (R_tval x) h6⟩

/-- Operation o does what K and X say. -/
def DOk (P : Program) (o : Oper) (a : Act) (g : G) (st : St) (w : World) (K X : Kn) : Prop :=
  ∀ (K' : Act → World → Prop) (Q' : Exit → Act → World → Prop),
    (∀ (v : T) (s' : St) (x : Value) (g' : G) (w' : World), K v s' → Good g' s' w' → GL g st g' → (∀ b0, Step b0 g st w g' s' w') → R g' v x → K' (a.put o.dst x) w') →
    (∀ (u : T) (s' : St) (v : Value) (g' : G) (w' : World), X u s' → Good g' s' w' → GL g st g' → (∀ b0, Step b0 g st w g' s' w') → R g' u v → Q' (.panic [{ v, recovered := false }]) a w') → o.wp P a w K' Q'
theorem dok_val {v : T} {x : Value} (hg : Good g st w) (hrun : (execOp a.eval o).run P w = .ok (.value x) w) (hR : R g v x) (hK : K v st) : DOk P o a g st w K X := by
  intro K' Q' h1 _
  unfold Oper.wp
  rw [hrun]
  exact h1 v st x g w hK hg (GL.refl g st) (fun _ => Step.refl) hR
theorem dok_quiet {v : T} {x : Value} (hg : Good g st w) (hrun : quiet P (execOp a.eval o) = some (.value x)) (hR : R g v x) (hK : K v st) : DOk P o a g st w K X :=
  dok_val hg (quiet_run hrun w) hR hK
theorem dok_move (hg : Good g st w) (ht : RelT g n t a) {x : Operand} (ho : o.op = .move x ∨ o.op = .assign x) (hK : K (ev t x) st) : DOk P o a g st w K X :=
  dok_quiet (x := a.eval x) hg (by rcases ho with ho | ho <;> simp only [execOp, ho] <;> rfl) (ht.ev x) hK
theorem dok_pick (hg : Good g st w) (ht : RelT g n t a) {c x y : Operand} {b : Bool} (ho : o.op = .pick c x y) (hc : ev t c = .bool b) {v : T} (hv : R g v (if b = true then a.eval x else a.eval y)) (hK : K v st) : DOk P o a g st w K X := by
  have h := ht.ev c
  rw [hc] at h
  generalize he : a.eval c = ec at h
  cases h
  exact dok_quiet (x := if b = true then a.eval x else a.eval y) hg (by simp only [execOp, ho, he, asBool, quiet_bind, quiet_pure, Option.bind_some]) hv hK

/-! ### Parts -/
theorem subRow_some {agg : Bool} {size off : Nat} {cs : List T} {K : T → Prop} (h : subRow agg size cs off K) : ∃ v, K v ∧ (if agg = true then (if off + size ≤ cs.length then some (T.ag ((cs.drop off).take size)) else none) else cs[off]?) = some v := by
  unfold subRow at h
  cases agg with
  | true =>
    simp only at h
    split at h
    · rename_i hd
      exact ⟨_, h, by simp only [if_true]; rw [if_pos (by simpa using hd)]⟩
    · exact h.elim
  | false =>
    simp only at h
    split at h
    · rename_i u hu
      exact ⟨u, h, by simpa using hu⟩
    · exact h.elim
theorem quiet_part {T0 : TypeId} {ti : TI} (hT : TIok P T0 ti) {xs : Array Value} {cs : List T} {off : Nat} {v : T} (hx : R g (.ag cs) (.agg xs))
    (h : (if ti.agg = true then (if off + ti.size ≤ cs.length then some (T.ag ((cs.drop off).take ti.size)) else none) else cs[off]?) = some v) : ∃ y, quiet P (part T0 xs off) = some y ∧ R g v y := by
  obtain ⟨d, hd, hd', _⟩ := hT.under
  obtain ⟨i, hi, hi', _⟩ := hT.info
  cases hx with
  | ag _ _ k1 k2 k3 =>
    cases hag : ti.agg with
    | false =>
      simp only [hag, Bool.false_eq_true, if_false] at h
      have hlt : off < xs.size := by rw [← k1]; exact (List.getElem?_eq_some_iff.1 h).1
      exact ⟨xs[off], by simp [part, quiet_bind, hd, hd', hag, hlt], k2 off v _ h (by simp [hlt])⟩
    | true =>
      simp only [hag, if_true] at h
      split at h
      · rename_i hle
        injection h with h
        subst h
        refine ⟨.agg (xs.extract off (off + ti.size)), by simp [part, quiet_bind, hd, hd', hag, hi, hi'], .ag _ _ (by simp; omega) (fun j c y hc hy => ?_) (fun j y hy => ?_)⟩
        · have hj : j < ti.size := by
            have := (List.getElem?_eq_some_iff.1 hc).1
            simp at this; omega
          rw [List.getElem?_take_of_lt hj, List.getElem?_drop] at hc
          rw [Array.getElem?_extract] at hy
          split at hy
          · exact k2 _ c y hc hy
          · cases hy
        · rw [Array.getElem?_extract] at hy
          split at hy
          · exact k3 _ y hy
          · cases hy
      · cases h
theorem fieldOf_some {T0 : TypeId} {f off : Nat} {te : TI} (hD : TDok P D) (h : fieldOf D T0 f = some (off, te)) : ∃ fields fd, P.underlying T0 = some (.struct fields) ∧ fields[f]? = some fd ∧ fd.offset = off ∧ TIok P fd.type te := by
  unfold fieldOf at h
  split at h
  case h_2 => cases h
  rename_i ti hti
  split at h
  case h_2 => cases h
  rename_i fs hfs
  split at h
  case h_2 => cases h
  rename_i off' t' hf
  split at h
  case h_2 => cases h
  rename_i te' hte
  simp only [Option.some.injEq, Prod.mk.injEq] at h
  obtain ⟨rfl, rfl⟩ := h
  obtain ⟨d, h1, _, h3⟩ := (hD _ _ hti).under
  rw [hfs] at h3
  obtain ⟨fields, rfl, rfl, _⟩ := h3
  rw [List.getElem?_map] at hf
  cases hfd : fields.toList[f]? with
  | none => simp [hfd] at hf
  | some fd =>
    simp only [hfd, Option.map_some, Option.some.injEq, Prod.mk.injEq] at hf
    obtain ⟨rfl, rfl⟩ := hf
    exact ⟨fields, fd, h1, by simpa using hfd, rfl, hD _ _ hte⟩
theorem dok_fieldAddr (hD : TDok P D) (hg : Good g st w) (ht : RelT g n t a) {s : TypeId} {x : Operand} {f : Nat} (ho : o.op = .fieldAddr s x f) (h : dfieldAddr D s (ev t x) f fun v => K v st) : DOk P o a g st w K X := by
  unfold dfieldAddr at h
  split at h
  case h_2 => exact h.elim
  rename_i off te hf
  obtain ⟨fields, fd, h1, h2, rfl, hte⟩ := fieldOf_some hD hf
  obtain ⟨i, hi, hi', _⟩ := hte.info
  split at h
  · exact h.elim
  rename_i m hm
  have hne : ¬ i.size = 0 := by omega
  have hq : ∀ b q, a.eval x = .pointer (some ⟨b, q, none⟩) → quiet P (execOp a.eval o) = some (.value (.pointer (some ⟨b, q + fd.offset, none⟩))) := by
    intro b q e
    simp [execOp, ho, Instr.fieldAt, e, Instr.sureAddr, fieldPlace, quiet_bind, h1, h2, hi, hne, Addr.add_lit]
  have hR := ht.ev x
  generalize hv : ev t x = xv at hR h
  generalize he : a.eval x = ex at hR
  cases hR with
  | pt k q oi p1 => exact dok_quiet hg (hq _ _ he) (.pt k _ oi p1) h
  | pr e u j b q cs p1 p2 => exact dok_quiet hg (hq _ _ he) (by rw [Nat.add_assoc]; exact .pr e u _ b q cs p1 p2) h
  | pe e k ver i j oi p1 p2 => exact dok_quiet hg (hq _ _ he) (by rw [Nat.add_assoc]; exact .pe e k ver i _ oi p1 p2) h
  | _ => exact h.elim
theorem dok_field (hD : TDok P D) (hg : Good g st w) (ht : RelT g n t a) {s : TypeId} {x : Operand} {f : Nat} (ho : o.op = .field s x f) (h : dfield D s (ev t x) f fun v => K v st) : DOk P o a g st w K X := by
  unfold dfield at h
  split at h
  case h_2 => exact h.elim
  rename_i off te hf
  obtain ⟨fields, fd, h1, h2, rfl, hte⟩ := fieldOf_some hD hf
  have hR := ht.ev x
  generalize hv : ev t x = xv at hR h
  generalize he : a.eval x = ex at hR
  split at h
  case h_2 => exact h.elim
  rename_i cs
  obtain ⟨v, hK, hs⟩ := subRow_some h
  cases hR with
  | ag cs xs k1 k2 k3 =>
    obtain ⟨y, y1, y2⟩ := quiet_part hte (R.ag cs xs k1 k2 k3) hs
    exact dok_quiet hg (by simp [execOp, ho, Instr.field, he, asAgg, quiet_bind, h1, h2, y1]) y2 hK

theorem arrOf_some {s : St} {e : El} {k ver : Nat} {l : List (ty e)} (h : arrOf s e k ver = some l) : s[k]? = some (some (.arr ver e l)) := by
  unfold arrOf at h
  split at h
  case h_2 => cases h
  rename_i v e' l' hr
  split at h
  case isFalse => cases h
  rename_i he
  subst he
  split at h
  case isFalse => cases h
  rename_i hv
  subst hv
  injection h with h
  subst h
  exact rd_some.1 hr
theorem slice_under {T0 e : TypeId} {ti : TI} (hT : TIok P T0 ti) (h : ti.srt = .slice e) : P.underlying T0 = some (.slice e) := by
  obtain ⟨d, h1, _, h3⟩ := hT.under
  rw [h] at h3
  rw [h1]; exact congrArg some h3.1
theorem slice_info {T0 e : TypeId} {ti : TI} (hT : TIok P T0 ti) (h : ti.srt = .slice e) : ∃ i, P.info? e = some i := by
  obtain ⟨d, h1, _, h3⟩ := hT.under
  rw [h] at h3
  exact Option.isSome_iff_exists.1 h3.2
theorem array_under {T0 e : TypeId} {m : Nat} {ti : TI} (hT : TIok P T0 ti) (h : ti.srt = .array m e) : P.underlying T0 = some (.array m e) := by
  obtain ⟨d, h1, _, h3⟩ := hT.under
  rw [h] at h3
  rw [h1]; exact congrArg some h3
theorem str_under {T0 : TypeId} {ti : TI} (hT : TIok P T0 ti) (h : ti.srt = .string) : P.underlying T0 = some .string := by
  obtain ⟨d, h1, _, h3⟩ := hT.under
  rw [h] at h3
  rw [h1]; exact congrArg some h3
theorem Good.arr (hg : Good g st w) {k ver : Nat} {e : El} {l : List (ty e)} (h : st[k]? = some (some (.arr ver e l))) : ∃ oi, g.ob k ver = some oi ∧ oi.len = l.length ∧ oi.len ≤ oi.cap ∧ oi.cap ≤ maxLen ∧ (oi.cap ≠ 0 → (∀ cs0, ¬ g.ro oi.b cs0) ∧
    ∃ (blk : Array Value) (E : TypeId) (fr : Nat × Nat), w.heap[oi.b]? = some (.cells blk E fr) ∧ (∀ q, q < blk.size → ¬ (fr.1 ≤ q ∧ q < fr.2)) ∧ Cells g (encs e l) blk ∧ oi.cap * sz e ≤ blk.size) := by
  obtain ⟨oi, h1, h2, h3⟩ := hg.obj k _ h
  refine ⟨oi, h1, h2.1, h2.2.1, h2.2.2, fun hc => ?_⟩
  rcases h3 with h3 | h3
  · exact absurd h3.2 hc
  · exact h3
end
end Go.Proofs.Ythjikjhddddplaa
