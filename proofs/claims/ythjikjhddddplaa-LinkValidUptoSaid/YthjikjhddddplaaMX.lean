/-
  The machine over typed values, 12: objects are renumbered, or given up (then they are only read); states are told by their leaves. No program in sight.
-/
import Derived.Test.YthjikjhddddplaaMD4
namespace Go.Proofs.Ythjikjhddddplaa
set_option linter.unusedVariables false
set_option linter.unusedSimpArgs false
open Go.RowKit

/-- From (t, s) one may go on as from (t', s'). -/
def CutOk (b0 : B0) (t : Tm) (s : St) (t' : Tm) (s' : St) : Prop :=
  ∀ (g : G) (w : World) (a : Act) (n : Nat), Good g s w → RelT g n t a → ∃ g', Good g' s' w ∧ RelT g' n t' a ∧ Step b0 g s w g' s' w
theorem CutOk.refl {b0 : B0} {t : Tm} {s : St} : CutOk b0 t s t s := fun g _ _ _ hg ht => ⟨g, hg, ht, Step.refl⟩
theorem CutOk.trans {b0 : B0} {t t' t'' : Tm} {s s' s'' : St} (h : CutOk b0 t s t' s') (k : CutOk b0 t' s' t'' s'') : CutOk b0 t s t'' s'' := fun g w a n hg ht => by
  obtain ⟨g1, h1, h2, h3⟩ := h g w a n hg ht
  obtain ⟨g2, k1, k2, k3⟩ := k g1 w a n h1 h2
  exact ⟨g2, k1, k2, h3.trans k3⟩
theorem CutOk.awp {P : Program} {n : Nat} {b0 : B0} {c : Code} {Q : Kc} {t t' : Tm} {s s' : St} (h : CutOk b0 t s t' s') (k : awp P n b0 c Q t' s') : awp P n b0 c Q t s := fun g w a hg ht => by
  obtain ⟨g1, h1, h2, h3⟩ := h g w a n hg ht
  exact wp_mono (k g1 w a h1 h2) fun e a' w' hl => hl.trans h3

/-! ### Empty slices become arrays of the call's own -/
def addArr (s : St) (e : El) : St := s ++ [some (.arr 0 e [])]
theorem good_virt {g : G} {s : St} {w : World} (hg : Good g s w) (e : El) : ∃ g', Good g' (addArr s e) w ∧ g.le g' ∧ (∀ b0, Step b0 g s w g' (addArr s e) w) ∧ ∀ x, R g .nil x → R g' (.oa e s.length 0) x := by
  obtain ⟨k1, k2, k3⟩ := good_put (st' := addArr s e) (k := s.length) (v := 0) (o' := .arr 0 e []) (oi := ⟨0, 0, 0⟩) (w' := w) hg push_at (Nat.le_refl _) (by simp [addArr]) rfl (.inl (no_new hg)) (fun u oi hu => by rw [no_new hg] at hu; cases hu) ⟨rfl, Nat.le_refl _, Nat.zero_le _⟩
    (fun h => absurd ⟨rfl, rfl⟩ h) rfl rfl rfl (Nat.le_refl _) (fun _ _ _ => rfl) (fun h => absurd ⟨rfl, rfl⟩ h) (fun o ho => by rw [List.getElem?_eq_none (Nat.le_refl _)] at ho; cases ho)
  exact ⟨_, k1, k3, k2, fun x hx => by cases hx with | nil A => exact .oa e s.length 0 ⟨0, 0, 0⟩ A (by simp [G.set]) (fun h => absurd rfl h) (Nat.le_refl _) (Nat.zero_le _)⟩
theorem cut_virtT {b0 : B0} {t : Tm} {s : St} {d : Nat} (e : El) (h : get t d = .nil) : CutOk b0 t s (put t d (.oa e s.length 0)) (addArr s e) := fun g w a n hg ht => by
  obtain ⟨g', k1, k2, k3, k4⟩ := good_virt hg e
  refine ⟨g', k1, ⟨ht.size, ht.defers, fun i => ?_⟩, k3 b0⟩
  rw [get_put]
  by_cases e : i = d
  · subst e; rw [if_pos rfl]; exact k4 _ (by rw [← h]; exact ht.val i)
  · rw [if_neg e]; exact (ht.val i).mono k2
/-- Cells that say less. -/
theorem good_cells {g : G} {s : St} {w : World} (hg : Good g s w) {k : Nat} {cs cs' : List T} (hk : s[k]? = some (some (.cells cs))) (hl : cs'.length = cs.length) (hw : ∀ (j : Nat) (u : T), cs'[j]? = some u → ∃ c, cs[j]? = some c ∧ ∀ x, R g c x → R g u x) :
    Good g (s.set k (some (.cells cs'))) w ∧ ∀ b0, Step b0 g s w g (s.set k (some (.cells cs'))) w := by
  obtain ⟨oi, h1, _, h3⟩ := hg.obj k _ hk
  have hkl : k < s.length := (List.getElem?_eq_some_iff.1 hk).1
  have hset : g.set k 0 oi = g := by
    unfold G.set
    obtain ⟨ro, ob⟩ := g
    congr 1
    funext i u
    split
    · rename_i e; obtain ⟨rfl, rfl⟩ := e; exact h1.symm
    · rfl
  rcases h3 with h3 | ⟨h3, blk, E, fr, h4, h5, h6, _⟩
  · cases h3.1
  obtain ⟨k1, k2, _⟩ := good_put (st' := s.set k (some (.cells cs'))) (k := k) (v := 0) (o' := .cells cs') (oi := oi) (w' := w) hg (set_at hkl) (by omega) (by simp) rfl (.inr h1) (fun u oi' hu => by have := old_ver hg hk hu; simpa [obVer] using this) trivial
    (fun _ => .inr ⟨_, hk, blk_of h1 (by simp [isArr])⟩) rfl rfl rfl (Nat.le_refl _) (fun _ _ _ => rfl) (fun _ => ⟨blk, E, fr, h4, h5, ⟨by have := h6.le; simp only [obCells] at this ⊢; omega, fun j u hj => by
      obtain ⟨c, c1, c2⟩ := hw j u hj
      obtain ⟨x, x1, x2, x3⟩ := h6.at_ j c c1
      exact ⟨x, x1, x2, c2 x x3⟩⟩, trivial⟩) (fun o ho => by
      rw [hk] at ho; simp only [Option.some.injEq] at ho; subst ho; exact ⟨cs', rfl, hl, h1⟩)
  rw [hset] at k1
  exact ⟨k1, fun b0 => by have := k2 b0; rw [hset] at this; exact this⟩
theorem cut_virtC {b0 : B0} {t : Tm} {s : St} {k j : Nat} {cs : List T} (e : El) (hk : rd s k = some (.cells cs)) (hj : cs[j]? = some .nil) : CutOk b0 t s t ((addArr s e).set k (some (.cells (cs.set j (.oa e s.length 0))))) := fun g w a n hg ht => by
  obtain ⟨g', k1, k2, k3, k4⟩ := good_virt hg e
  have hk' := rd_some.1 hk
  have hkl : k < s.length := (List.getElem?_eq_some_iff.1 hk').1
  have hk2 : (addArr s e)[k]? = some (some (.cells cs)) := by unfold addArr; rw [List.getElem?_append_left hkl]; exact hk'
  obtain ⟨oi, o1, _, o3⟩ := hg.obj k _ hk'
  have hjl : j < cs.length := (List.getElem?_eq_some_iff.1 hj).1
  rcases o3 with o3 | ⟨_, blk, E, fr, o4, o5, o6, _⟩
  · cases o3.1
  -- the cell holds an empty slice
  obtain ⟨m1, m2⟩ : Good g' ((addArr s e).set k (some (.cells (cs.set j (.oa e s.length 0))))) w ∧ ∀ b0, Step b0 g' (addArr s e) w g' ((addArr s e).set k (some (.cells (cs.set j (.oa e s.length 0))))) w := by
    have hkl2 : k < (addArr s e).length := by simp [addArr]; omega
    obtain ⟨oi', h1, _, h3⟩ := k1.obj k _ hk2
    have hset : g'.set k 0 oi' = g' := by
      unfold G.set
      obtain ⟨ro, ob⟩ := g'
      congr 1
      funext i u
      split
      · rename_i e; obtain ⟨rfl, rfl⟩ := e; exact h1.symm
      · rfl
    rcases h3 with h3 | ⟨h3, blk', E', fr', h4, h5, h6, _⟩
    · cases h3.1
    have hoi : oi' = oi := by
      have := k2.ob k 0 oi o1
      simp only [obVer] at h1
      rw [h1] at this; injection this
    subst hoi
    rw [o4] at h4
    simp only [Option.some.injEq, Obj.cells.injEq] at h4
    obtain ⟨rfl, rfl, rfl⟩ := h4
    obtain ⟨q1, q2, _⟩ := good_put (st' := (addArr s e).set k (some (.cells (cs.set j (.oa e s.length 0))))) (k := k) (v := 0) (o' := .cells (cs.set j (.oa e s.length 0))) (oi := oi') (w' := w) k1 (set_at hkl2) (by omega) (by simp) rfl (.inr h1) (fun u oi' hu => by have := old_ver k1 hk2 hu; simpa [obVer] using this) trivial
      (fun _ => .inr ⟨_, hk2, blk_of h1 (by simp [isArr])⟩) rfl rfl rfl (Nat.le_refl _) (fun _ _ _ => rfl) (fun _ => ⟨blk, E, fr, o4, o5, ⟨by have := o6.le; simp only [obCells, List.length_set] at this ⊢; omega, fun i u hi => by
        simp only [obCells] at hi
        by_cases ei : i = j
        · subst ei
          rw [List.getElem?_set_self hjl] at hi
          injection hi with hi
          subst hi
          obtain ⟨x, x1, x2, x3⟩ := o6.at_ i _ hj
          exact ⟨x, x1, x2, k4 x x3⟩
        · rw [List.getElem?_set_ne (Ne.symm ei)] at hi
          exact h6.at_ i u hi⟩, trivial⟩) (fun o ho => by
        rw [hk2] at ho; simp only [Option.some.injEq] at ho; subst ho; exact ⟨_, rfl, by simp, h1⟩)
    rw [hset] at q1
    exact ⟨q1, fun b0 => by have := q2 b0; rw [hset] at this; exact this⟩
  exact ⟨g', m1, ht.mono k2, (k3 b0).trans (m2 b0)⟩

/-! ### Renumbering -/
mutual
def rnV (s : St) (gv : Bool) (pos : Nat → Option (Nat × Nat)) : T → T
  | .oa e k ver => match arrOf s e k ver with
    | some l => match pos k with
      | some p => .oa e p.1 p.2
      | none => match gv with
        | true => .sl false e l
        | false => .undef
    | none => .undef
  | .os e k ver off n => match arrOf s e k ver with
    | some l => match pos k with
      | some p => .os e p.1 p.2 off n
      | none => match gv with
        | true => .sl false e ((l.drop off).take n)
        | false => .undef
    | none => .undef
  | .pt k off => match rd s k with
    | some (.cells _) => match pos k with
      | some p => .pt p.1 off
      | none => .undef
    | _ => .undef
  | .pe e k ver i j => match arrOf s e k ver with
    | some _ => match pos k with
      | some p => .pe e p.1 p.2 i j
      | none => .undef
    | none => .undef
  | .ag cs => .ag (rnL s gv pos cs)
  | .tu cs => .tu (rnL s gv pos cs)
  | .fn f xs ys => .fn f (rnL s gv pos xs) (rnL s gv pos ys)
  | .ic t v => .ic t (rnV s gv pos v)
  | .undef => .undef
  | .int k n => .int k n
  | .bool b => .bool b
  | .str b => .str b
  | .cst v => .cst v
  | .ub => .ub
  | .nil => .nil
  | .sl full e l => .sl full e l
  | .pr e x j => .pr e x j
def rnL (s : St) (gv : Bool) (pos : Nat → Option (Nat × Nat)) : List T → List T
  | [] => []
  | v :: r => rnV s gv pos v :: rnL s gv pos r
end
theorem rnL_get {s : St} {gv : Bool} {pos : Nat → Option (Nat × Nat)} : ∀ {cs : List T} {i : Nat} {u : T}, (rnL s gv pos cs)[i]? = some u → ∃ c, cs[i]? = some c ∧ u = rnV s gv pos c
  | [], _, _, h => by simp [rnL] at h
  | v :: r, 0, u, h => by simp [rnL] at h; exact ⟨v, rfl, h.symm⟩
  | v :: r, i + 1, u, h => by simp only [rnL, List.getElem?_cons_succ] at h ⊢; exact rnL_get h
theorem rnL_length {s : St} {gv : Bool} {pos : Nat → Option (Nat × Nat)} : ∀ {cs : List T}, (rnL s gv pos cs).length = cs.length
  | [] => rfl
  | v :: r => by simp [rnL, rnL_length (cs := r)]
def rnOb (s : St) (gv : Bool) (pos : Nat → Option (Nat × Nat)) : Option Ob → Option Ob
  | some (.cells cs) => some (.cells (rnL s gv pos cs))
  | some (.arr _ e l) => some (.arr 0 e l)
  | none => none
def posOf : List Nat → Nat → Option Nat
  | [], _ => none
  | a :: r, k => match decide (k = a) with
    | true => some 0
    | false => match posOf r k with
      | some i => some (i + 1)
      | none => none
def pos0 (keep : List Nat) (k : Nat) : Option (Nat × Nat) := match posOf keep k with
  | some p => some (p, 0)
  | none => none
theorem pos0_some {keep : List Nat} {k : Nat} {q : Nat × Nat} (h : pos0 keep k = some q) : posOf keep k = some q.1 ∧ q.2 = 0 := by
  unfold pos0 at h
  split at h
  · rename_i p hp; injection h with h; subst h; exact ⟨hp, rfl⟩
  · cases h
theorem pos0_none {keep : List Nat} {k : Nat} (h : pos0 keep k = none) : posOf keep k = none := by
  unfold pos0 at h
  split at h
  · cases h
  · assumption
def rnS (s : St) (gv : Bool) (keep : List Nat) : St := keep.map fun k => rnOb s gv (pos0 keep) (rd s k)
theorem posOf_some : ∀ {ks : List Nat} {k i : Nat}, posOf ks k = some i → ks[i]? = some k
  | [], _, _, h => by simp [posOf] at h
  | a :: r, k, i, h => by
    simp only [posOf] at h
    by_cases e : k = a
    · rw [decide_eq_true e] at h
      simp only [Option.some.injEq] at h
      subst h; subst e; rfl
    · rw [decide_eq_false e] at h
      simp only at h
      split at h
      · rename_i j hj
        injection h with h
        subst h
        simpa using posOf_some hj
      · cases h
theorem posOf_none : ∀ {ks : List Nat} {k : Nat}, posOf ks k = none → k ∉ ks
  | [], _, _ => by simp
  | a :: r, k, h => by
    simp only [posOf] at h
    by_cases e : k = a
    · rw [decide_eq_true e] at h; cases h
    · rw [decide_eq_false e] at h
      simp only at h
      split at h
      · cases h
      · rename_i hn
        simp [e, posOf_none hn]
theorem posOf_get {ks : List Nat} (hn : ks.Nodup) {i k : Nat} (h : ks[i]? = some k) : posOf ks k = some i := by
  cases hf : posOf ks k with
  | none => exact absurd (List.mem_of_getElem? h) (posOf_none hf)
  | some j =>
    have hj := posOf_some hf
    rw [(List.getElem?_inj (List.getElem?_eq_some_iff.1 hj).1 hn).1 (hj.trans h.symm)]
theorem obBlk_arr {g : G} {k ver : Nat} {e : El} {l : List (ty e)} {oi : OI} (h : g.ob k ver = some oi) (hc : oi.cap ≠ 0) : obBlk g k (.arr ver e l) = some oi.b := by
  unfold obBlk
  simp only [obVer, h]
  rw [if_neg (by simp [hc])]
/-- The ghost, once the objects that are not kept are given up. -/
theorem ren_ghost {g : G} {s : St} {w : World} (hg : Good g s w) (keep : List Nat) (gv : Bool) : ∃ ro' : Nat → List T → Prop, (∀ b cs, g.ro b cs → ro' b cs) ∧
    (∀ k ver e l oi, s[k]? = some (some (.arr ver e l)) → posOf keep k = none → g.ob k ver = some oi → oi.cap ≠ 0 → gv = true → ro' oi.b (encs e l)) ∧
    (∀ b cs, ro' b cs → g.ro b cs ∨ ∃ k ver e l oi, s[k]? = some (some (.arr ver e l)) ∧ posOf keep k = none ∧ g.ob k ver = some oi ∧ oi.cap ≠ 0 ∧ oi.b = b ∧ cs = encs e l) ∧ (gv = false → ro' = g.ro) := by
  cases gv with
  | false => exact ⟨g.ro, fun _ _ h => h, fun _ _ _ _ _ _ _ _ _ h => by (cases h), fun _ _ h => .inl h, fun _ => rfl⟩
  | true =>
  let p (b : Nat) (cs : List T) : Prop := ∃ k ver e l oi, s[k]? = some (some (.arr ver e l)) ∧ posOf keep k = none ∧ g.ob k ver = some oi ∧ oi.cap ≠ 0 ∧ oi.b = b ∧ cs = encs e l
  exact ⟨fun b cs => p b cs ∨ g.ro b cs, fun b cs h => .inr h, fun k ver e l oi h1 h2 h3 h4 _ => .inl ⟨k, ver, e, l, oi, h1, h2, h3, h4, rfl, rfl⟩, fun b cs h => h.symm, fun h => by (cases h)⟩
theorem ren_ok {g : G} {s : St} {w : World} (hg : Good g s w) {keep : List Nat} (hn : keep.Nodup) (gv : Bool) : ∃ g', Good g' (rnS s gv keep) w ∧ (∀ b0 : B0, (∀ k, k < b0.b → keep[k]? = some k) → (∀ k, k < b0.c → keep[k]? = some k ∧ ∀ ver e l, s[k]? = some (some (.arr ver e l)) → ver = 0) → Step b0 g s w g' (rnS s gv keep) w) ∧ (∀ v x, R g v x → R g' (rnV s gv (pos0 keep) v) x) ∧
    (∀ b cs, g.ro b cs → g'.ro b cs) ∧ (∀ i k o, keep[i]? = some k → s[k]? = some (some o) → g'.ob i 0 = g.ob k (obVer o)) ∧ (gv = false → g'.ro = g.ro) ∧ ∀ b, Own g' (rnS s gv keep) b → ∃ k o, k ∈ keep ∧ s[k]? = some (some o) ∧ obBlk g k o = some b := by
  obtain ⟨ro', r1, r2, r3, r4⟩ := ren_ghost hg keep gv
  let g' : G := ⟨ro', fun p v => if v = 0 then (keep[p]?).bind fun k => match rd s k with | some o => g.ob k (obVer o) | none => none else none⟩
  have hob : ∀ i k o, keep[i]? = some k → s[k]? = some (some o) → g'.ob i 0 = g.ob k (obVer o) := fun i k o h1 h2 => by
    simp only [g', if_true, h1, Option.bind_some, rd_some.2 h2]
  have hro : ∀ b cs, g.ro b cs → g'.ro b cs := r1
  have hkeep : ∀ k o oi, s[k]? = some (some o) → posOf keep k ≠ none → g.ob k (obVer o) = some oi → ¬ (isArr o = true ∧ oi.cap = 0) → (∀ cs0, ¬ g.ro oi.b cs0) → (∀ cs0, ¬ g'.ro oi.b cs0) := by
    intro k o oi h1 h2 h3 h4 h5 cs hr
    · rcases r3 _ _ hr with h6 | ⟨k', ver, e, l, oi', a1, a2, a3, a4, a5, _⟩
      · exact h5 _ h6
      · have : k = k' := hg.inj k k' _ _ oi.b h1 a1 (blk_of h3 h4) (by rw [obBlk_arr a3 a4, a5])
        subst this
        exact absurd a2 h2
  have hR : ∀ v x, R g v x → R g' (rnV s gv (pos0 keep) v) x := by
    intro v x h
    induction h with
    | undef x => exact .undef x
    | int k n => exact .int k n
    | bool b => exact .bool b
    | str s => exact .str s
    | cst v => exact .cst v
    | ub b => exact .ub b
    | nil A => exact .nil A
    | sl full e l A c h1 h2 h3 h4 => exact .sl full e l A c h1 h2 h3 fun hne => by obtain ⟨b, off, cs, k1, k2, k3⟩ := h4 hne; exact ⟨b, off, cs, k1, hro _ _ k2, k3⟩
    | oa e k ver oi A h1 h2 h3 h4 =>
      simp only [rnV]
      split
      case h_2 => exact .undef _
      rename_i l hl
      obtain ⟨oi', q1, q2, _⟩ := hg.arr (arrOf_some hl)
      rw [h1] at q1
      injection q1 with q1
      subst q1
      split
      · rename_i p hp
        obtain ⟨hp, hp2⟩ := pos0_some hp
        exact .oa e p.1 p.2 oi A (by rw [hp2, hob p.1 k _ (posOf_some hp) (arrOf_some hl)]; exact h1) h2 h3 h4
      · rename_i hp
        have hp := pos0_none hp
        split
        · rename_i hgv
          rw [q2]
          exact .sl false e l A _ (by omega) h4 (by simp) fun hne => by
            have hc : oi.cap ≠ 0 := by have := List.length_pos_iff.2 hne; omega
            exact ⟨oi.b, 0, encs e l, h2 hc, r2 k ver e l oi (arrOf_some hl) hp h1 hc rfl, by rw [List.drop_zero, List.take_of_length_le (by rw [encs_len]; exact Nat.le_refl _)]⟩
        · exact .undef _
    | os e k ver off n oi A c h1 h2 h3 h4 h5 h6 =>
      simp only [rnV]
      split
      case h_2 => exact .undef _
      rename_i l hl
      obtain ⟨oi', q1, q2, _⟩ := hg.arr (arrOf_some hl)
      rw [h1] at q1
      injection q1 with q1
      subst q1
      split
      · rename_i p hp
        obtain ⟨hp, hp2⟩ := pos0_some hp
        exact .os e p.1 p.2 off n oi A c (by rw [hp2, hob p.1 k _ (posOf_some hp) (arrOf_some hl)]; exact h1) h2 h3 h4 h5 h6
      · rename_i hp
        have hp := pos0_none hp
        split
        case h_2 => exact .undef _
        have hlen : ((l.drop off).take n).length = n := by simp; omega
        have := R.sl (g := g') false e ((l.drop off).take n) A c (by omega) h5 (by simp) fun hne => by
          have hn0 : n ≠ 0 := by rintro rfl; simp at hne
          have hc : oi.cap ≠ 0 := by omega
          exact ⟨oi.b, off * sz e, encs e l, h3 hn0, r2 k ver e l oi (arrOf_some hl) hp h1 hc rfl, by rw [hlen, encs_drop, encs_take]⟩
        rw [hlen] at this
        exact this
    | pt k off oi h1 =>
      simp only [rnV]
      split
      · rename_i cs hcs
        split
        · rename_i p hp
          obtain ⟨hp, _⟩ := pos0_some hp
          exact .pt p.1 off oi (by rw [hob p.1 k _ (posOf_some hp) (rd_some.1 hcs)]; exact h1)
        · exact .undef _
      · exact .undef _
    | pe e k ver i j oi h1 h2 =>
      simp only [rnV]
      split
      case h_2 => exact .undef _
      rename_i l hl
      split
      · rename_i p hp
        obtain ⟨hp, hp2⟩ := pos0_some hp
        exact .pe e p.1 p.2 i j oi (by rw [hp2, hob p.1 k _ (posOf_some hp) (arrOf_some hl)]; exact h1) h2
      · exact .undef _
    | pr e x j b off cs h1 h2 => exact .pr e x j b off cs (hro _ _ h1) h2
    | ag cs xs h1 _ h3 ih => exact .ag _ xs (by rw [rnL_length]; exact h1) (fun i c x hc hx => by obtain ⟨c0, c1, rfl⟩ := rnL_get hc; exact ih i c0 x c1 hx) h3
    | tu cs xs h1 _ ih => exact .tu _ xs (by rw [rnL_length]; exact h1) (fun i c x hc hx => by obtain ⟨c0, c1, rfl⟩ := rnL_get hc; exact ih i c0 x c1 hx)
    | fn f as bs xs ys h1 h2 _ _ ih1 ih2 => exact .fn f _ _ xs ys (by rw [rnL_length]; exact h1) (by rw [rnL_length]; exact h2) (fun i c x hc hx => by obtain ⟨c0, c1, rfl⟩ := rnL_get hc; exact ih1 i c0 x c1 hx) (fun i c x hc hx => by obtain ⟨c0, c1, rfl⟩ := rnL_get hc; exact ih2 i c0 x c1 hx)
    | ic t v x _ ih => exact .ic t _ x ih
  have hget : ∀ p o', (rnS s gv keep)[p]? = some (some o') → ∃ k o, keep[p]? = some k ∧ s[k]? = some (some o) ∧ rnOb s gv (pos0 keep) (some o) = some o' := fun p o' h => by
    unfold rnS at h
    rw [List.getElem?_map] at h
    cases hk : keep[p]? with
    | none => simp [hk] at h
    | some k =>
      simp only [hk, Option.map_some, Option.some.injEq] at h
      cases hr : rd s k with
      | none => rw [hr] at h; simp [rnOb] at h
      | some o => rw [hr] at h; exact ⟨k, o, hk, rd_some.1 hr, h⟩
  have hver : ∀ o o', rnOb s gv (pos0 keep) (some o) = some o' → obVer o' = 0 ∧ isArr o' = isArr o ∧ ∀ oi, obFits o oi → obFits o' oi := fun o o' h => by
    cases o with
    | cells cs => simp only [rnOb, Option.some.injEq] at h; subst h; exact ⟨rfl, rfl, fun _ _ => trivial⟩
    | arr ver e l => simp only [rnOb, Option.some.injEq] at h; subst h; exact ⟨rfl, rfl, fun _ h => h⟩
  have hblk : ∀ p k o o', keep[p]? = some k → s[k]? = some (some o) → rnOb s gv (pos0 keep) (some o) = some o' → obBlk g' p o' = obBlk g k o := fun p k o o' h1 h2 h3 => by
    obtain ⟨v1, v2, _⟩ := hver o o' h3
    unfold obBlk
    rw [v1, v2, hob p k o h1 h2]
  refine ⟨g', ⟨fun b cs h => ?_, fun p o' h => ?_, fun p p' o1 o2 b h1 h2 h3 h4 => ?_, fun p v oi h => ?_⟩, fun b0 hb hc => ⟨rfl, rfl, rfl, Nat.le_refl _, fun _ _ _ => rfl, hro, fun b hb' => ?_, fun b cs h => ?_, fun k hk o ho => ?_, fun k hk ver e l ho => ?_⟩, hR, hro, hob, r4, fun b hb' => ?_⟩
  · rcases r3 b cs h with h1 | ⟨k, ver, e, l, oi, a1, a2, a3, a4, a5, rfl⟩
    · obtain ⟨blk, E, fr, h2, h3⟩ := hg.ro b cs h1
      exact ⟨blk, E, fr, h2, h3.pure hro⟩
    · obtain ⟨oi', q1, _, _, _, q5⟩ := hg.arr a1
      rw [a3] at q1
      injection q1 with q1
      subst q1
      obtain ⟨_, blk, E, fr, b1, _, b3, _⟩ := q5 a4
      rw [← a5]
      exact ⟨blk, E, fr, b1, (b3.pure encs_pure hro).toR⟩
  · obtain ⟨k, o, h1, h2, h3⟩ := hget p o' h
    obtain ⟨v1, v2, v3⟩ := hver o o' h3
    obtain ⟨oi, q1, q2, q3⟩ := hg.obj k o h2
    refine ⟨oi, by rw [v1, hob p k o h1 h2]; exact q1, v3 oi q2, ?_⟩
    by_cases hn0 : isArr o = true ∧ oi.cap = 0
    · exact .inl (by rw [v2]; exact hn0)
    rcases q3 with q3 | ⟨q3, blk, E, fr, q4, q5, q6, q7⟩
    · exact absurd q3 hn0
    refine .inr ⟨hkeep k o oi h2 (by rw [posOf_get hn h1]; simp) q1 hn0 q3, blk, E, fr, q4, q5, ?_, ?_⟩
    · cases o with
      | cells cs =>
        simp only [rnOb, Option.some.injEq] at h3
        subst h3
        refine ⟨by simp only [obCells, rnL_length]; exact q6.le, fun j u hj => ?_⟩
        obtain ⟨c, c1, rfl⟩ := rnL_get hj
        obtain ⟨x, x1, x2, x3⟩ := q6.at_ j c c1
        exact ⟨x, x1, x2, hR c x x3⟩
      | arr ver e l =>
        simp only [rnOb, Option.some.injEq] at h3
        subst h3
        exact q6.pure encs_pure hro
    · cases o with
      | cells cs => simp only [rnOb, Option.some.injEq] at h3; subst h3; trivial
      | arr ver e l => simp only [rnOb, Option.some.injEq] at h3; subst h3; exact q7
  · obtain ⟨k, o, a1, a2, a3⟩ := hget p o1 h1
    obtain ⟨k', o', b1, b2, b3⟩ := hget p' o2 h2
    rw [hblk p k o o1 a1 a2 a3] at h3
    rw [hblk p' k' o' o2 b1 b2 b3] at h4
    have : k = k' := hg.inj k k' o o' b a2 b2 h3 h4
    subst this
    have e1 := posOf_get hn a1
    have e2 := posOf_get hn b1
    rw [e1] at e2
    injection e2
  · simp only [g'] at h
    split at h
    case isFalse => cases h
    rename_i hv
    subst hv
    refine ⟨?_, fun o _ => Nat.zero_le _⟩
    cases hk : keep[p]? with
    | none => simp [hk] at h
    | some k => unfold rnS; rw [List.length_map]; exact (List.getElem?_eq_some_iff.1 hk).1
  · obtain ⟨p, o', h1, h2⟩ := hb'
    obtain ⟨k, o, a1, a2, a3⟩ := hget p o' h1
    rw [hblk p k o o' a1 a2 a3] at h2
    exact .inl ⟨k, o, a2, h2⟩
  · rcases r3 b cs h with h1 | ⟨k, ver, e, l, oi, a1, _, a3, a4, a5, _⟩
    · exact .inl h1
    · exact .inr (.inl ⟨k, _, a1, by rw [obBlk_arr a3 a4, a5]⟩)
  · have hkk := hb k hk
    have hr : (rnS s gv keep)[k]? = some (rnOb s gv (pos0 keep) (some o)) := by
      unfold rnS
      rw [List.getElem?_map, hkk]
      simp [rd_some.2 ho]
    cases o with
    | cells cs => exact ⟨_, hr, rnL_length, hob k k _ hkk ho⟩
    | arr ver e l => exact ⟨0, l, hr⟩
  · obtain ⟨hkk, hv⟩ := hc k hk
    have h0 := hv ver e l ho
    subst h0
    refine ⟨0, l, ?_, fun _ => ⟨rfl, hob k k _ hkk ho⟩⟩
    unfold rnS
    rw [List.getElem?_map, hkk]
    simp [rd_some.2 ho, rnOb]
  · obtain ⟨p, o', h1, h2⟩ := hb'
    obtain ⟨k, o, a1, a2, a3⟩ := hget p o' h1
    rw [hblk p k o o' a1 a2 a3] at h2
    exact ⟨k, o, List.mem_of_getElem? a1, a2, h2⟩
def rnT (s : St) (pos : Nat → Option (Nat × Nat)) (t : Tm) : List Nat → Tm
  | [] => []
  | i :: r => (i, rnV s true pos (get t i)) :: rnT s pos t r
theorem rnT_get {s : St} {pos : Nat → Option (Nat × Nat)} {t : Tm} : ∀ {l : List Nat} (i : Nat), get (rnT s pos t l) i = .undef ∨ get (rnT s pos t l) i = rnV s true pos (get t i)
  | [], _ => .inl rfl
  | j :: r, i => by
    simp only [rnT, get]
    split
    · rename_i e; subst e; exact .inr rfl
    · exact rnT_get i
theorem cut_ren {b0 : B0} {t : Tm} {s : St} {keep : List Nat} (hn : keep.Nodup) (hb : ∀ k, k < b0.b → keep[k]? = some k) (hc : ∀ k, k < b0.c → keep[k]? = some k ∧ ∀ ver e l, s[k]? = some (some (.arr ver e l)) → ver = 0) (live : List Nat) : CutOk b0 t s (rnT s (pos0 keep) t live) (rnS s true keep) := fun g w a n hg ht => by
  obtain ⟨g', k1, k2, k3, _⟩ := ren_ok hg hn true
  refine ⟨g', k1, ⟨ht.size, ht.defers, fun i => ?_⟩, k2 b0 hb hc⟩
  rcases rnT_get (s := s) (pos := pos0 keep) (t := t) (l := live) i with e | e
  · rw [e]; exact .undef _
  · rw [e]; exact k3 _ _ (ht.val i)
end Go.Proofs.Ythjikjhddddplaa
