/-
  The machine over typed values, 6: memory. No program in sight.
-/
import Derived.Test.YthjikjhddddplaaMS1
namespace Go.Proofs.Ythjikjhddddplaa
set_option linter.unusedVariables false
set_option linter.unusedSimpArgs false
open Go.RowKit

theorem splice_length {cs xs : List T} {o : Nat} (h : o + xs.length ≤ cs.length) : (splice cs o xs).length = cs.length := by
  simp [splice]; omega
theorem splice_get {cs xs : List T} {o : Nat} (h : o + xs.length ≤ cs.length) (j : Nat) : (splice cs o xs)[j]? = if o ≤ j ∧ j < o + xs.length then xs[j - o]? else cs[j]? := by
  unfold splice
  have ho : o ≤ cs.length := by omega
  have hl : (cs.take o).length = o := by simp [ho]
  by_cases h1 : j < o
  · rw [List.getElem?_append_left (by omega), if_neg (by omega), List.getElem?_take_of_lt h1]
  · rw [List.getElem?_append_right (by omega), hl]
    by_cases h2 : j < o + xs.length
    · rw [List.getElem?_append_left (by omega), if_pos (by omega)]
    · rw [List.getElem?_append_right (by omega), if_neg (by omega), List.getElem?_drop]
      congr 1; omega
theorem set_at {st : St} {k : Nat} {o : Ob} (hk : k < st.length) (i : Nat) : (st.set k (some o))[i]? = if i = k then some (some o) else st[i]? := by
  rw [List.getElem?_set]
  by_cases e : k = i
  · subst e; simp [hk]
  · have : i ≠ k := Ne.symm e
    simp [e, this]
theorem push_at {st : St} {o : Ob} (i : Nat) : (st ++ [some o])[i]? = if i = st.length then some (some o) else st[i]? := by
  by_cases e : i < st.length
  · rw [List.getElem?_append_left e, if_neg (by omega)]
  · rw [List.getElem?_append_right (by omega)]
    by_cases e' : i = st.length
    · subst e'; simp
    · rw [if_neg e', List.getElem?_eq_none (l := st) (by omega)]
      have h1 : i - st.length = (i - st.length - 1) + 1 := by omega
      rw [h1]; simp

section
variable {P : Program} {D : TD} {g : G} {st : St} {w : World} {n : Nat} {t : Tm} {a : Act} {o : Oper} {K X : Kn}

/-- A row of cells in memory. -/
def RowAt (g : G) (w : World) (cs : List T) (b off : Nat) : Prop := ∀ (j : Nat) (u : T), cs[j]? = some u → ∃ y, w.cell? ⟨b, off + j, none⟩ = some y ∧ y.oneCell' = true ∧ R g u y
theorem RowAt.of {cs : List T} {blk : Array Value} {b : Nat} {E : TypeId} {fr : Nat × Nat} (h : Cells g cs blk) (hb : w.heap[b]? = some (.cells blk E fr)) (off : Nat) : RowAt g w (cs.drop off) b off := by
  intro j u hj
  rw [List.getElem?_drop] at hj
  obtain ⟨y, y1, y2, y3⟩ := h.at_ _ u hj
  exact ⟨y, by simp [World.cell?, hb, y1], y2, y3⟩
theorem RowAt.take {cs : List T} {b off : Nat} (h : RowAt g w cs b off) (m : Nat) : RowAt g w (cs.take m) b off := by
  intro j u hj
  rw [List.getElem?_take] at hj
  split at hj
  · exact h j u hj
  · cases hj
theorem RowAt.ofR {cs : List T} {blk : Array Value} {b : Nat} {E : TypeId} {fr : Nat × Nat} (h : CellsR g cs blk) (hb : w.heap[b]? = some (.cells blk E fr)) (off m : Nat) (hp : ∀ u ∈ (cs.drop off).take m, u.pure1 = true) : RowAt g w ((cs.drop off).take m) b off := by
  intro j u hj
  have hpu := hp u (List.mem_of_getElem? hj)
  rw [List.getElem?_take] at hj
  split at hj
  · rw [List.getElem?_drop] at hj
    obtain ⟨x, h1, h2, h3⟩ := h.at_ _ u hj hpu
    exact ⟨x, by simp [World.cell?, hb, h1], h2, h3⟩
  · cases hj
theorem RowAt.drop {cs : List T} {b off : Nat} (h : RowAt g w cs b off) (m : Nat) : RowAt g w (cs.drop m) b (off + m) := by
  intro j u hj
  rw [List.getElem?_drop] at hj
  have := h (m + j) u hj
  rw [← Nat.add_assoc] at this
  exact this
/-- What a pointer points to. -/
theorem ptr_row (hg : Good g st w) {v : T} {x : Value} (h : R g v x) : (∀ k off cs, v = .pt k off → rd st k = some (.cells cs) → ∃ b q, x = .pointer (some ⟨b, q, none⟩) ∧ RowAt g w (cs.drop off) b q) ∧
    (∀ e u j, v = .pr e u j → ∃ b q, x = .pointer (some ⟨b, q, none⟩) ∧ RowAt g w ((enc e u).drop j) b q) ∧
    (∀ e k ver i j l u, v = .pe e k ver i j → arrOf st e k ver = some l → l[i]? = some u → ∃ b q, x = .pointer (some ⟨b, q, none⟩) ∧ RowAt g w ((enc e u).drop j) b q) := by
  refine ⟨fun k off cs hv hr => ?_, fun e u j hv => ?_, fun e k ver i j l u hv hr hu => ?_⟩
  · subst hv
    cases h with
    | pt _ _ oi p1 =>
      obtain ⟨oi', h1, h2, h3⟩ := hg.obj k _ (rd_some.1 hr)
      simp only [obVer] at h1
      rw [p1] at h1
      injection h1 with h1
      subst h1
      rcases h3 with h3 | ⟨_, blk, E, fr, h4, _, h5, _⟩
      · cases h3.1
      · exact ⟨_, _, rfl, RowAt.of h5 h4 off⟩
  · subst hv
    cases h with
    | pr _ _ _ b q cs p1 p2 =>
      obtain ⟨blk, E, fr, h1, h2⟩ := hg.ro b cs p1
      refine ⟨b, q + j, rfl, ?_⟩
      rw [← p2]
      exact (RowAt.ofR h2 h1 q _ (by rw [p2]; exact enc_pure _ _)).drop j
  · subst hv
    cases h with
    | pe _ _ _ _ _ oi p1 p2 =>
      obtain ⟨oi', h1, _, _, _, h2⟩ := hg.arr (arrOf_some hr)
      rw [p1] at h1
      injection h1 with h1
      subst h1
      obtain ⟨_, blk, E, fr, h3, _, h4, _⟩ := h2 p2
      refine ⟨oi.b, i * sz e + j, rfl, ?_⟩
      rw [← encs_at hu]
      exact ((RowAt.of h4 h3 _).take _).drop j
theorem run_load_row {T0 : TypeId} {ti : TI} (hT : TIok P T0 ti) {cs : List T} {off b q : Nat} {v : T} (hrow : RowAt g w (cs.drop off) b q)
    (h : (if ti.agg = true then (if off + ti.size ≤ cs.length then some (T.ag ((cs.drop off).take ti.size)) else none) else cs[off]?) = some v) : ∃ y, (loadVar T0 ⟨b, q, none⟩).run P w = .ok y w ∧ R g v y := by
  obtain ⟨d, hd, hd', _⟩ := hT.under
  obtain ⟨i, hi, hi', _⟩ := hT.info
  have hagg : (isAgg T0).run P w = .ok ti.agg w := quiet_run (by rw [quiet_agg, hd]; simp [hd']) w
  cases hag : ti.agg with
  | false =>
    simp only [hag, Bool.false_eq_true, if_false] at h
    obtain ⟨y, y1, y2, y3⟩ := hrow 0 v (by rw [List.getElem?_drop]; simpa using h)
    refine ⟨y, ?_, y3⟩
    rw [hag] at hagg
    simp only [loadVar, Sem.run_bind, Sem.run_pure, Result.andThen_ok, hagg]
    simp at y1
    simp [run_load, y1]
  | true =>
    simp only [hag, if_true] at h
    split at h
    · rename_i hle
      injection h with h
      subst h
      obtain ⟨ys, hl, hys⟩ := exists_list ti.size (p := fun j y => ∃ u, cs[off + j]? = some u ∧ w.cell? ⟨b, q + j, none⟩ = some y ∧ y.oneCell' = true ∧ R g u y) (fun j hj => by
        obtain ⟨y, hy⟩ := hrow j cs[off + j] (by rw [List.getElem?_drop]; simp)
        exact ⟨y, cs[off + j], by simp, hy⟩)
      have hload : (loadCells ⟨b, q, none⟩ ti.size).run P w = .ok ys.toArray w := by
        rw [← hl]
        exact run_loadCells_list w _ ys fun j y hj => by
          obtain ⟨u, _, h2, _⟩ := hys j y hj
          rw [Addr.add_lit]; exact h2
      have hsz : (sizeOf T0).run P w = .ok ti.size w := quiet_run (by rw [quiet_size, hi]; simp [hi']) w
      rw [hag] at hagg
      refine ⟨.agg ys.toArray, ?_, .ag _ _ (by simp; omega) (fun j c y hc hy => ?_) (fun j y hy => ?_)⟩
      · simp only [loadVar, Sem.run_bind, Sem.run_pure, Result.andThen_ok, hagg, hload, hsz, if_true]
      · obtain ⟨u, u1, _, _, u4⟩ := hys j y (by simpa using hy)
        have hj : j < ti.size := by
          have := (List.getElem?_eq_some_iff.1 hc).1
          simp at this; omega
        rw [List.getElem?_take_of_lt hj, List.getElem?_drop, u1] at hc
        injection hc with hc
        rw [← hc]; exact u4
      · obtain ⟨_, _, _, u3, _⟩ := hys j y (by simpa using hy)
        exact u3
    · cases h
theorem dload_some {T0 : TypeId} {ti : TI} (hT : TIok P T0 ti) (hg : Good g st w) {v : T} {x : Value} {K : T → Prop} (hR : R g v x) (h : dload ti st v K) : ∃ ad y u, x = .pointer (some ad) ∧ (loadVar T0 ad).run P w = .ok y w ∧ R g u y ∧ K u := by
  obtain ⟨q1, q2, q3⟩ := ptr_row hg hR
  unfold dload at h
  split at h
  · rename_i k off
    split at h
    case h_2 => exact h.elim
    rename_i cs hr
    obtain ⟨u, hK, hs⟩ := subRow_some h
    obtain ⟨b, q, rfl, hrow⟩ := q1 k off cs rfl hr
    obtain ⟨y, y1, y2⟩ := run_load_row hT hrow hs
    exact ⟨_, y, u, rfl, y1, y2, hK⟩
  · rename_i e z j
    obtain ⟨u, hK, hs⟩ := subRow_some h
    obtain ⟨b, q, rfl, hrow⟩ := q2 e z j rfl
    obtain ⟨y, y1, y2⟩ := run_load_row hT hrow hs
    exact ⟨_, y, u, rfl, y1, y2, hK⟩
  · rename_i e k ver i j
    split at h
    case h_2 => exact h.elim
    rename_i l hr
    obtain ⟨z, hz, h⟩ := h
    obtain ⟨u, hK, hs⟩ := subRow_some h
    obtain ⟨b, q, rfl, hrow⟩ := q3 e k ver i j l z rfl hr hz
    obtain ⟨y, y1, y2⟩ := run_load_row hT hrow hs
    exact ⟨_, y, u, rfl, y1, y2, hK⟩
  · exact h.elim
theorem dok_load (hD : TDok P D) (hg : Good g st w) (ht : RelT g n t a) {T0 : TypeId} {x : Operand} (ho : o.op = .load T0 x) {ti : TI} (hti : tyOf D T0 = some ti) (h : dload ti st (ev t x) fun v => K v st) : DOk P o a g st w K X := by
  obtain ⟨ad, y, u, h1, h2, h3, h4⟩ := dload_some (hD _ _ hti) hg (ht.ev x) h
  exact dok_val (x := y) hg (by simp only [execOp, ho, Instr.loadAt, h1, Instr.sureAddr, Sem.run_bind, Sem.run_pure, Result.andThen_ok, h2]) h3 h4

theorem old_ver (hg : Good g st w) {k : Nat} {o' : Ob} (h : st[k]? = some (some o')) {u : Nat} {oi : OI} (hu : g.ob k u = some oi) : u ≤ obVer o' := (hg.old k u oi hu).2 o' h
theorem no_new (hg : Good g st w) {u : Nat} : g.ob st.length u = none := by
  cases h : g.ob st.length u with
  | none => rfl
  | some oi => have := (hg.old _ _ _ h).1; omega
theorem blk_of {k : Nat} {o' : Ob} {oi : OI} (h : g.ob k (obVer o') = some oi) (hn : ¬ (isArr o' = true ∧ oi.cap = 0)) : obBlk g k o' = some oi.b := by
  unfold obBlk
  rw [h]
  simp only
  rw [if_neg hn]

def sameOb : Ob → Ob → Prop
  | .cells cs, .cells cs' => cs'.length = cs.length
  | .arr _ e _, .arr _ e' _ => e' = e
  | _, _ => False
/-- A row is stored in an object's block. -/
theorem dok_put (hg : Good g st w) {T0 : TypeId} {ti : TI} (hT : TIok P T0 ti) {x y : Operand} (ho : o.op = .store T0 x y) {k q : Nat} {ob ob' : Ob} {oi : OI} {xs : List T} (hk : st[k]? = some (some ob)) (hoi : g.ob k (obVer ob) = some oi) (hn : ¬ (isArr ob = true ∧ oi.cap = 0))
    (hx : a.eval x = .pointer (some ⟨oi.b, q, none⟩)) (hy : R g (.ag xs) (.agg (a.eval y).cells)) (hxs : xs.length = ti.size) (hq : q + xs.length ≤ (obCells ob).length)
    (hob : obVer ob' = obVer ob ∧ isArr ob' = isArr ob) (hc : ∀ (j : Nat) (u : T), (obCells ob')[j]? = some u → ∃ u', (splice (obCells ob) q xs)[j]? = some u' ∧ ∀ z, R g u' z → R g u z) (hl : (obCells ob').length = (obCells ob).length) (hfit : obFits ob' oi)
    (hsz : sameOb ob ob') (hK : K .undef (st.set k (some ob'))) : DOk P o a g st w K X := by
  obtain ⟨oi', h1, _, _, hro, blk, E, fr, g1, g2, g3, g4⟩ := hg.own hk (blk_of hoi hn)
  rw [hoi] at h1
  injection h1 with h1
  subst h1
  obtain ⟨i, hi, hi', _⟩ := hT.info
  cases hy with
  | ag _ _ r1 r2 r3 =>
  have hlen : (a.eval y).cells.toList.length = xs.length := by simp [r1]
  have hall : ∀ v ∈ (a.eval y).cells.toList, v.oneCell' = true := by
    intro v hv
    obtain ⟨j, hj⟩ := List.getElem?_of_mem hv
    exact r3 j v (by simpa using hj)
  obtain ⟨w', blk', a1, a2, a3, a4, a5, a6, a7, a8, a9⟩ := run_storeRow (P := P) oi.b q (a.eval y).cells.toList 0 w blk E fr g1 g2 (by have := g3.le; omega) hall
  have hszr : (sizeOf T0).run P w = .ok ti.size w := quiet_run (by rw [quiet_size, hi]; simp [hi']) w
  have hrun : (execOp a.eval o).run P w = .ok .skip w' := by
    simp only [execOp, ho, Instr.storeAt, hx, Instr.sureAddr, storeVar, Sem.run_bind, Sem.run_pure, Result.andThen_ok, hszr]
    rw [if_neg (by omega)]
    simp [a1]
  intro K' Q' hK' _
  unfold Oper.wp
  rw [hrun]
  have hkl : k < st.length := (List.getElem?_eq_some_iff.1 hk).1
  have hwide : obWide ob' oi blk'.size := by
    rw [a3]
    cases ob <;> cases ob' <;> simp only [sameOb, obWide] at hsz g4 ⊢
    subst hsz
    exact g4
  have hcells : ∀ (j : Nat) (u : T), (obCells ob')[j]? = some u → ∃ x : Value, blk'[j]? = some x ∧ x.oneCell' = true ∧ R g u x := by
    intro j u hj
    obtain ⟨u', hu', himp⟩ := hc j u hj
    rw [splice_get (by omega)] at hu'
    have hb := a4 j
    simp only [Nat.add_zero, hlen] at hb
    by_cases e : q ≤ j ∧ j < q + xs.length
    · rw [if_pos e] at hu' hb
      have hlt : j - q < (a.eval y).cells.size := by omega
      refine ⟨(a.eval y).cells[j - q], by rw [hb]; simp [hlt], r3 _ _ (Array.getElem?_eq_getElem hlt), himp _ (r2 _ _ _ hu' (Array.getElem?_eq_getElem hlt))⟩
    · rw [if_neg e] at hu' hb
      obtain ⟨z, z1, z2, z3⟩ := g3.at_ _ u' hu'
      exact ⟨z, by rw [hb]; exact z1, z2, himp z z3⟩
  obtain ⟨k1, k2, k3⟩ := good_put (st' := st.set k (some ob')) (o' := ob') (oi := oi) (w' := w') hg (set_at hkl) (by omega) (by simp) hob.1 (.inr hoi) (fun u oi' hu => old_ver hg hk hu) hfit
    (fun _ => .inr ⟨ob, hk, blk_of hoi hn⟩) a7 a8 a9 (by omega) (fun b _ hb => a5 b fun e => hb ob hk (by rw [blk_of hoi hn, e])) (fun _ => ⟨blk', E, fr, a2, by rw [a3]; exact g2, ⟨by rw [a3, hl]; exact g3.le, hcells⟩, hwide⟩) (fun o2 ho2 => by
      rw [hk] at ho2
      simp only [Option.some.injEq] at ho2
      subst ho2
      cases ob <;> cases ob' <;> simp only [sameOb] at hsz
      · exact ⟨_, rfl, hsz, hoi⟩
      · subst hsz; exact ⟨_, _, rfl⟩)
  exact hK' _ _ _ _ _ hK k1 ⟨k3, set_hid (.inl ⟨_, hk⟩)⟩ k2 (.undef _)
theorem dok_store (hD : TDok P D) (hg : Good g st w) (ht : RelT g n t a) {T0 : TypeId} {x y : Operand} (ho : o.op = .store T0 x y) {ti : TI} (hti : tyOf D T0 = some ti) (h : dstore ti st (ev t x) (ev t y) fun s => K .undef s) : DOk P o a g st w K X := by
  unfold dstore at h
  split at h
  case h_2 => exact h.elim
  rename_i xs hxs
  split at h
  case h_2 => exact h.elim
  rename_i hlen
  simp only [decide_eq_true_eq] at hlen
  have hy := R_ag_cells (ht.ev y) hxs
  have hR := ht.ev x
  generalize hv : ev t x = xv at hR h
  generalize he : a.eval x = ex at hR
  split at h
  · rename_i k off
    split at h
    case h_2 => exact h.elim
    rename_i cs hr
    split at h
    case h_2 => exact h.elim
    rename_i hoff
    simp only [decide_eq_true_eq] at hoff
    cases hR with
    | pt _ _ oi p1 =>
      exact dok_put hg (hD _ _ hti) ho (ob := .cells cs) (ob' := .cells (splice cs off xs)) (rd_some.1 hr) p1 (by simp [isArr]) he hy hlen hoff ⟨rfl, rfl⟩ (fun j u hj => ⟨u, hj, fun _ h => h⟩) (splice_length hoff) trivial (splice_length hoff) h
  · rename_i e k ver i j
    split at h
    case h_2 => exact h.elim
    rename_i l hr
    obtain ⟨z, hz, h⟩ := h
    split at h
    case h_2 => exact h.elim
    rename_i hj
    simp only [decide_eq_true_eq] at hj
    split at h
    case h_2 => exact h.elim
    rename_i u hu
    cases hR with
    | pe _ _ _ _ _ oi p1 p2 =>
      obtain ⟨oi', h1, f1, f2, f3, _⟩ := hg.arr (arrOf_some hr)
      rw [p1] at h1
      injection h1 with h1
      subst h1
      have hil : i < l.length := (List.getElem?_eq_some_iff.1 hz).1
      have hi1 : i * sz e + sz e ≤ l.length * sz e := by rw [← Nat.succ_mul]; exact Nat.mul_le_mul_right _ hil
      obtain ⟨d1, d2⟩ := dec_ok e _ u hu
      have hsp : (splice (enc e z) j xs).length = sz e := by rw [splice_length (by rw [enc_len]; exact hj), enc_len]
      refine dok_put hg (hD _ _ hti) ho (ob := .arr ver e l) (ob' := .arr ver e (l.set i u)) (arrOf_some hr) p1 (by simp [p2]) he hy hlen (by simp only [obCells, encs_len]; omega) ⟨rfl, rfl⟩ (fun m v hm => ?_) (by simp [obCells, encs_len]) ⟨by simp [f1], f2, f3⟩ rfl h
      simp only [obCells] at hm ⊢
      have hml : m < (l.set i u).length * sz e := by rw [← encs_len]; exact (List.getElem?_eq_some_iff.1 hm).1
      rw [List.length_set] at hml
      have hp := sz_pos e
      have hmd : m / sz e < l.length := Nat.div_lt_of_lt_mul (by rw [Nat.mul_comm]; exact hml)
      have hme : m = m / sz e * sz e + m % sz e := by rw [Nat.mul_comm]; exact (Nat.div_add_mod m (sz e)).symm
      have hmr := Nat.mod_lt m hp
      generalize m / sz e = p at *
      generalize m % sz e = r at *
      subst hme
      rw [splice_get (by rw [encs_len]; omega)]
      by_cases hpi : p = i
      · subst hpi
        rw [encs_get (x := u) (by rw [List.getElem?_set_self hil]) hmr] at hm
        obtain ⟨c, c1, c2⟩ := d2 r v hm
        rw [splice_get (by rw [enc_len]; exact hj)] at c1
        by_cases hin : j ≤ r ∧ r < j + xs.length
        · rw [if_pos hin] at c1
          rw [if_pos (by omega), show p * sz e + r - (p * sz e + j) = r - j by omega]
          exact ⟨c, c1, fun z => c2 g z⟩
        · rw [if_neg hin] at c1
          rw [if_neg (by omega), encs_get hz hmr]
          exact ⟨c, c1, fun z => c2 g z⟩
      · have hpl : (l.set i u)[p]? = some l[p] := by rw [List.getElem?_set_ne (Ne.symm hpi)]; simp [hmd]
        rw [encs_get hpl hmr] at hm
        have : p * sz e + sz e ≤ i * sz e ∨ i * sz e + sz e ≤ p * sz e := by
          rcases Nat.lt_or_gt_of_ne hpi with h1 | h1
          · left; rw [← Nat.succ_mul]; exact Nat.mul_le_mul_right _ h1
          · right; rw [← Nat.succ_mul]; exact Nat.mul_le_mul_right _ h1
        rw [if_neg (by omega), encs_get (x := l[p]) (by simp [hmd]) hmr]
        exact ⟨v, hm, fun _ h => h⟩
  · exact h.elim

/-- A new object. -/
theorem dok_new (hg : Good g st w) {z : List T} {E : TypeId} {x : Value}
    (hrun : (execOp a.eval o).run P w = .ok (.value (.pointer (some ⟨w.heap.size, 0, none⟩))) (w.alloc (.cells x.cells E))) (hx : R g (.ag z) (.agg x.cells)) (hK : K (.pt st.length 0) (st ++ [some (.cells z)])) : DOk P o a g st w K X := by
  intro K' Q' hK' _
  unfold Oper.wp
  rw [hrun]
  cases hx with
  | ag _ _ h1 h2 h3 =>
    obtain ⟨k1, k2, k3⟩ := good_put (st' := st ++ [some (.cells z)]) (k := st.length) (v := 0) (o' := .cells z) (oi := ⟨w.heap.size, 0, 0⟩) (w' := w.alloc (.cells x.cells E)) hg push_at (Nat.le_refl _) (by simp) rfl (.inl (no_new hg)) (fun u oi hu => by rw [no_new hg] at hu; cases hu) trivial
      (fun _ => .inl (Nat.le_refl _)) rfl rfl rfl (by simp) (fun b hb _ => Below.heap_alloc w _ b hb) (fun _ => ⟨x.cells, E, (0, 0), heap_alloc_new w _, fun q _ h => absurd h.2 (Nat.not_lt_zero _), ⟨by simp only [obCells]; omega, fun j u hu => by
        simp only [obCells] at hu
        have hj : j < x.cells.size := by rw [← h1]; exact (List.getElem?_eq_some_iff.1 hu).1
        exact ⟨x.cells[j], by simp [hj], h3 j _ (by simp [hj]), h2 j u _ hu (by simp [hj])⟩⟩, trivial⟩) (fun o ho => by rw [List.getElem?_eq_none (Nat.le_refl _)] at ho; cases ho)
    exact hK' _ _ _ _ _ hK k1 ⟨k3, set_hid (.inr rfl)⟩ k2 (.pt _ 0 ⟨w.heap.size, 0, 0⟩ (by simp [G.set]))
theorem dok_box (hg : Good g st w) (ht : RelT g n t a) {T0 : TypeId} {x : Operand} {z : List T} (ho : o.op = .box T0 x) (h : cellsOf (ev t x) = some z) (hK : K (.pt st.length 0) (st ++ [some (.cells z)])) : DOk P o a g st w K X :=
  dok_new (x := a.eval x) (E := T0) hg (by simp only [execOp, ho, Instr.box, newVar, newRow, newObj, Sem.run_bind, Sem.run_pure, Result.andThen_ok]; rfl) (R_ag_cells (ht.ev x) h) hK
theorem dok_alloc (hD : TDok P D) (hg : Good g st w) {T0 : TypeId} {ti : TI} {z : List T} (ho : o.op = .alloc T0) (hti : tyOf D T0 = some ti) (h : ti.zero = some z) (hK : K (.pt st.length 0) (st ++ [some (.cells z)])) : DOk P o a g st w K X := by
  obtain ⟨i, x, h1, h2, h3⟩ := R_zero (g := g) (hD _ _ hti) h
  have hz : (zeroValue T0).run P w = .ok x w := quiet_run (by rw [quiet_zero, h1]; simp [h2]) w
  exact dok_new (x := x) (E := T0) hg (by simp only [execOp, ho, Instr.alloc, newVar, newRow, newObj, Sem.run_bind, Sem.run_pure, Result.andThen_ok, hz]; rfl) h3 hK
end
end Go.Proofs.Ythjikjhddddplaa
