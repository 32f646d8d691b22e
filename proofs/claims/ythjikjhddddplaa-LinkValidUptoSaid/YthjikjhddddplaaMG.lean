/-
  The machine over typed values, 15: calls that hand on objects. No program in sight.
-/
import Derived.Test.YthjikjhddddplaaMF
namespace Go.Proofs.Ythjikjhddddplaa
set_option linter.unusedVariables false
set_option linter.unusedSimpArgs false
open Go.RowKit

theorem putOld_get {s : St} {ks : List Nat} {N : Nat} {fx : Nat → Bool} {s1 : St} : ∀ (r : List Nat) (i : Nat) (st : St), r.Nodup → (∀ k ∈ r, k < st.length) → ∀ k, (putOld s ks N fx s1 r i st)[k]? = match posOf r k with
    | some j => some (bkOb s ks N fx s1 (i + j) (rd s1 (i + j)))
    | none => st[k]?
  | [], i, st, _, _, k => rfl
  | a :: r, i, st, hn, hl, k => by
    have hn' := List.nodup_cons.1 hn
    simp only [putOld]
    rw [putOld_get r (i + 1) _ hn'.2 (fun k hk => by rw [List.length_set]; exact hl k (by simp [hk])) k]
    simp only [posOf]
    by_cases e : k = a
    · subst e
      have : posOf r k = none := by
        cases hf : posOf r k with
        | none => rfl
        | some j => exact absurd (List.mem_of_getElem? (posOf_some hf)) hn'.1
      rw [this, decide_eq_true rfl]
      simp only [Nat.add_zero]
      rw [List.getElem?_set_self (hl k (by simp))]
    · rw [decide_eq_false e]
      simp only
      cases hf : posOf r k with
      | none => simp only; rw [List.getElem?_set_ne (Ne.symm e)]
      | some j => simp only; rw [show i + 1 + j = i + (j + 1) by omega]
theorem putOld_length {s : St} {ks : List Nat} {N : Nat} {fx : Nat → Bool} {s1 : St} : ∀ (r : List Nat) (i : Nat) (st : St), (putOld s ks N fx s1 r i st).length = st.length
  | [], _, _ => rfl
  | a :: r, i, st => by simp only [putOld]; rw [putOld_length r]; simp
theorem newOnes_get {s : St} {ks : List Nat} {N : Nat} {fx : Nat → Bool} {s1 : St} : ∀ (l : St) (i j : Nat), (newOnes s ks N fx s1 i l)[j]? = (l[j]?).map (bkOb s ks N fx s1 (i + j))
  | [], _, _ => by simp [newOnes]
  | o :: r, i, 0 => by simp [newOnes]
  | o :: r, i, j + 1 => by
    simp only [newOnes, List.getElem?_cons_succ]
    rw [newOnes_get r, show i + 1 + j = i + (j + 1) by omega]
theorem newOnes_length {s : St} {ks : List Nat} {N : Nat} {fx : Nat → Bool} {s1 : St} : ∀ (l : St) (i : Nat), (newOnes s ks N fx s1 i l).length = l.length
  | [], _ => rfl
  | o :: r, i => by simp [newOnes, newOnes_length r]
theorem allLive_ok {s : St} : ∀ {ks : List Nat}, allLive s ks = true → ∀ k ∈ ks, ∃ o, s[k]? = some (some o)
  | [], _, k, h => by simp at h
  | a :: r, h, k, hk => by
    simp only [allLive] at h
    split at h
    · rename_i o ho
      simp only [List.mem_cons] at hk
      rcases hk with rfl | hk
      · exact ⟨o, rd_some.1 ho⟩
      · exact allLive_ok h k hk
    · cases h

section
variable {P : Program} {f : FuncId} {C : List T → St → Kn → Kn → Prop}
theorem frameD_sound {c0 : Nat} (hC : ∀ vs s K X, C vs s K X → FCalls P f vs s K X c0) {vs : List T} {s : St} {K X : Kn} (h : frameD c0 C vs s K X) : DCalls P f vs s K X := by
  unfold frameD at h
  simp only at h
  generalize reach s 64 (objsL vs) [] = ks at h
  split at h
  case h_2 => exact h.elim
  rename_i hnb hlv
  have hn := nodupB_ok hnb
  have hlive := allLive_ok hlv
  obtain ⟨he, h⟩ := hC _ _ _ _ h
  refine ⟨he, fun g w args hg hr => ?_⟩
  obtain ⟨g0, k1, _, k3, k4, k5, k6, k7⟩ := ren_ok hg hn false
  have k6 := k6 rfl
  have hlen0 : (rnS s false ks).length = ks.length := by simp [rnS]
  refine (h g0 w args k1 (hr.rn k3)).mono fun e w1 ⟨g1, s1, g1ok, st1, hend⟩ => ?_
  rw [hlen0] at st1
  -- the callee's first objects
  have hold : ∀ i k, ks[i]? = some k → ∃ o o1, s[k]? = some (some o) ∧ s1[i]? = some (some o1) ∧ isArr o1 = isArr o ∧ (isArr o = false → g1.ob i 0 = g.ob k 0 ∧ (obCells o1).length = (obCells o).length) ∧ (∀ ver e l, o = .arr ver e l → ∃ ver' l', o1 = .arr ver' e l') := by
    intro i k hik
    obtain ⟨o, ho⟩ := hlive k (List.mem_of_getElem? hik)
    have hi : i < ks.length := (List.getElem?_eq_some_iff.1 hik).1
    have h0 : (rnS s false ks)[i]? = some (rnOb s false (pos0 ks) (some o)) := by
      unfold rnS
      rw [List.getElem?_map, hik]
      simp [rd_some.2 ho]
    have hob := k5 i k o hik ho
    cases o with
    | cells cs =>
      obtain ⟨cs', a1, a2, a3⟩ := st1.kept i hi _ h0
      exact ⟨_, _, ho, a1, rfl, fun _ => ⟨a3.trans hob, by simp only [obCells]; rw [a2, rnL_length]⟩, fun _ _ _ h => by cases h⟩
    | arr ver e l =>
      obtain ⟨ver', l', a1⟩ := st1.kept i hi _ h0
      exact ⟨_, _, ho, a1, rfl, (fun h => by cases h), (fun _ _ _ h => by cases h; exact ⟨_, _, rfl⟩)⟩
  have hfix : ∀ i k o, ks[i]? = some k → s[k]? = some (some o) → fxOf c0 s1 i = true → ∃ e l', s1[i]? = some (some (.arr 0 e l')) ∧ g1.ob i 0 = g.ob k (obVer o) := by
    intro i k o hik ho hfx
    unfold fxOf at hfx
    split at hfx
    case h_2 => cases hfx
    rename_i e l' hlt hrd
    have hlt : i < c0 := Nat.le_of_ble_eq_true hlt
    have h1 := rd_some.1 hrd
    obtain ⟨o', o1, b1, b2, b3, _⟩ := hold i k hik
    rw [ho] at b1
    simp only [Option.some.injEq] at b1
    subst b1
    rw [h1] at b2
    simp only [Option.some.injEq] at b2
    subst b2
    have hob := k5 i k o hik ho
    cases o with
    | cells cs => simp [isArr] at b3
    | arr ver e2 l2 =>
      have h0 : (rnS s false ks)[i]? = some (some (.arr 0 e2 l2)) := by
        unfold rnS
        rw [List.getElem?_map, hik]
        simp [rd_some.2 ho, rnOb]
      obtain ⟨ver', l3, a1, a2⟩ := st1.fixd i hlt 0 e2 l2 h0
      rw [h1] at a1
      simp only [Option.some.injEq, Ob.arr.injEq] at a1
      obtain ⟨rfl, _⟩ := a1
      exact ⟨e, l', h1, ((a2 rfl).2).trans hob⟩
  have hm : ks.length ≤ s1.length := Nat.le_of_not_lt fun hlt => by
    have hk : ks[s1.length]? = some ks[s1.length] := List.getElem?_eq_getElem hlt
    obtain ⟨_, _, _, h1, _⟩ := hold _ _ hk
    have := (List.getElem?_eq_some_iff.1 h1).1
    omega
  have hklt : ∀ k ∈ ks, k < s.length := fun k hk => by obtain ⟨o, ho⟩ := hlive k hk; exact (List.getElem?_eq_some_iff.1 ho).1
  -- the merged store
  have hget : ∀ k, (merge s ks (fxOf c0 s1) s1)[k]? = match posOf ks k with
      | some i => some (bkOb s ks s.length (fxOf c0 s1) s1 i (rd s1 i))
      | none => if k < s.length then s[k]? else (s1[ks.length + (k - s.length)]?).map (bkOb s ks s.length (fxOf c0 s1) s1 (ks.length + (k - s.length))) := by
    intro k
    unfold merge
    have hl := putOld_length (s := s) (ks := ks) (N := s.length) (fx := fxOf c0 s1) (s1 := s1) ks 0 s
    by_cases hk : k < s.length
    · rw [List.getElem?_append_left (by omega), putOld_get ks 0 s hn hklt k]
      cases posOf ks k with
      | none => simp [hk]
      | some i => simp
    · rw [List.getElem?_append_right (by omega), newOnes_get, hl, List.getElem?_drop]
      have : posOf ks k = none := by
        cases hf : posOf ks k with
        | none => rfl
        | some i => have := hklt k (List.mem_of_getElem? (posOf_some hf)); omega
      rw [this]
      simp [hk]
  have hlen2 : s.length ≤ (merge s ks (fxOf c0 s1) s1).length := by unfold merge; rw [List.length_append, putOld_length]; omega
  have hlen3 : (merge s ks (fxOf c0 s1) s1).length = s.length + (s1.length - ks.length) := by unfold merge; rw [List.length_append, putOld_length, newOnes_length, List.length_drop]
  obtain ⟨s2, hs2⟩ : ∃ s2, s2 = merge s ks (fxOf c0 s1) s1 := ⟨_, rfl⟩
  rw [← hs2] at hget hlen2 hlen3
  -- the ghost
  let ob2 : Nat → Nat → Option OI := fun k v => match posOf ks k with
    | some i => match rd s k, rd s1 i with
      | some o, some (.arr v1 _ _) => if fxOf c0 s1 i = false ∧ v = obVer o + 1 then g1.ob i v1 else g.ob k v
      | _, _ => g.ob k v
    | none => if k < s.length then g.ob k v else if v = 0 then (match rd s1 (ks.length + (k - s.length)) with | some o1 => g1.ob (ks.length + (k - s.length)) (obVer o1) | none => none) else none
  let g2 : G := ⟨g1.ro, ob2⟩
  have hpos : ∀ i p, bkPos s ks s.length (fxOf c0 s1) i = some p → (∃ k o, ks[i]? = some k ∧ s[k]? = some (some o) ∧ p = (k, match fxOf c0 s1 i with | true => obVer o | false => obVer o + 1)) ∨ (ks.length ≤ i ∧ p = (s.length + (i - ks.length), 0)) := by
    intro i p hp
    unfold bkPos at hp
    split at hp
    · rename_i k hk
      split at hp
      · rename_i o ho
        injection hp with hp
        exact .inl ⟨k, o, hk, rd_some.1 ho, hp.symm⟩
      · cases hp
    · rename_i hk
      injection hp with hp
      exact .inr ⟨List.getElem?_eq_none_iff.1 hk, hp.symm⟩
  have hob2 : ∀ i o1 p, s1[i]? = some (some o1) → bkPos s ks s.length (fxOf c0 s1) i = some p → g2.ob p.1 (if isArr o1 = true then p.2 else 0) = g1.ob i (obVer o1) := by
    intro i o1 p h1 hp
    rcases hpos i p hp with ⟨k, o, a1, a2, rfl⟩ | ⟨a1, rfl⟩
    · obtain ⟨o', o1', b1, b2, b3, b4, _⟩ := hold i k a1
      rw [a2] at b1
      simp only [Option.some.injEq] at b1
      subst b1
      rw [h1] at b2
      simp only [Option.some.injEq] at b2
      subst b2
      show ob2 k _ = _
      simp only [ob2, posOf_get hn a1, rd_some.2 a2, rd_some.2 h1]
      cases o1 with
      | cells cs =>
        simp only [isArr, obVer, Bool.false_eq_true, if_false]
        exact (b4 b3.symm).1.symm
      | arr v1 e l =>
        cases hfx : fxOf c0 s1 i with
        | false => simp [isArr, obVer]
        | true =>
          obtain ⟨e', l', q1, q2⟩ := hfix i k o a1 a2 hfx
          rw [h1] at q1
          simp only [Option.some.injEq, Ob.arr.injEq] at q1
          obtain ⟨rfl, _⟩ := q1
          simp only [isArr, obVer, Bool.true_eq_false, false_and, if_false, if_true]
          exact q2.symm
    · have hnone : posOf ks (s.length + (i - ks.length)) = none := by
        cases hf : posOf ks (s.length + (i - ks.length)) with
        | none => rfl
        | some j => have := hklt _ (List.mem_of_getElem? (posOf_some hf)); omega
      show ob2 _ _ = _
      simp only [ob2, hnone]
      rw [if_neg (by omega)]
      have hi : ks.length + (s.length + (i - ks.length) - s.length) = i := by omega
      rw [hi, if_pos (by split <;> rfl)]
      simp only [rd_some.2 h1]
  have hfr : ∀ k v, posOf ks k = none → k < s.length → g2.ob k v = g.ob k v := by
    intro k v h1 h2
    show ob2 k v = _
    simp only [ob2, h1]
    rw [if_pos h2]
  have hle : g.le g2 := by
    refine ⟨fun b cs hb => st1.ro b cs (by rw [k6]; exact hb), fun k v oi hv => ?_⟩
    obtain ⟨hk, hv'⟩ := hg.old k v oi hv
    cases hp : posOf ks k with
    | none => rw [hfr k v hp hk]; exact hv
    | some i =>
      show ob2 k v = _
      simp only [ob2, hp]
      split
      · rename_i o v1 e l ho _
        have := hv' o (rd_some.1 ho)
        rw [if_neg (by omega)]; exact hv
      · exact hv
  have hR : ∀ v x, R g1 v x → R g2 (rnV s1 false (bkPos s ks s.length (fxOf c0 s1)) v) x := by
    intro v x h
    induction h with
    | undef x => exact .undef x
    | int k n => exact .int k n
    | bool b => exact .bool b
    | str s => exact .str s
    | cst v => exact .cst v
    | ub b => exact .ub b
    | nil A => exact .nil A
    | sl full e l A c h1 h2 h3 h4 => exact .sl full e l A c h1 h2 h3 h4
    | oa e k ver oi A h1 h2 h3 h4 =>
      simp only [rnV]
      split
      case h_2 => exact .undef _
      rename_i l hl
      split
      case h_2 => exact .undef _
      rename_i p hp
      have := hob2 k _ p (arrOf_some hl) hp
      simp only [isArr, if_true, obVer] at this
      exact .oa e _ _ oi A (this.trans h1) h2 h3 h4
    | os e k ver off n oi A c h1 h2 h3 h4 h5 h6 =>
      simp only [rnV]
      split
      case h_2 => exact .undef _
      rename_i l hl
      split
      case h_2 => exact .undef _
      rename_i p hp
      have := hob2 k _ p (arrOf_some hl) hp
      simp only [isArr, if_true, obVer] at this
      exact .os e _ _ off n oi A c (this.trans h1) h2 h3 h4 h5 h6
    | pt k off oi h1 =>
      simp only [rnV]
      split
      case h_2 => exact .undef _
      rename_i cs hcs
      split
      case h_2 => exact .undef _
      rename_i p hp
      have := hob2 k _ p (rd_some.1 hcs) hp
      simp only [isArr, Bool.false_eq_true, if_false, obVer] at this
      exact .pt _ off oi (this.trans h1)
    | pe e k ver i j oi h1 h2 =>
      simp only [rnV]
      split
      case h_2 => exact .undef _
      rename_i l hl
      split
      case h_2 => exact .undef _
      rename_i p hp
      have := hob2 k _ p (arrOf_some hl) hp
      simp only [isArr, if_true, obVer] at this
      exact .pe e _ _ i j oi (this.trans h1) h2
    | pr e x j b off cs h1 h2 => exact .pr e x j b off cs h1 h2
    | ag cs xs h1 _ h3 ih => exact .ag _ xs (by rw [rnL_length]; exact h1) (fun i c x hc hx => by obtain ⟨c0, c1, rfl⟩ := rnL_get hc; exact ih i c0 x c1 hx) h3
    | tu cs xs h1 _ ih => exact .tu _ xs (by rw [rnL_length]; exact h1) (fun i c x hc hx => by obtain ⟨c0, c1, rfl⟩ := rnL_get hc; exact ih i c0 x c1 hx)
    | fn f as bs xs ys h1 h2 _ _ ih1 ih2 => exact .fn f _ _ xs ys (by rw [rnL_length]; exact h1) (by rw [rnL_length]; exact h2) (fun i c x hc hx => by obtain ⟨c0, c1, rfl⟩ := rnL_get hc; exact ih1 i c0 x c1 hx) (fun i c x hc hx => by obtain ⟨c0, c1, rfl⟩ := rnL_get hc; exact ih2 i c0 x c1 hx)
    | ic t v x _ ih => exact .ic t _ x ih
  -- what the merged store's objects are
  have hbk : ∀ i o1 o2, bkOb s ks s.length (fxOf c0 s1) s1 i (some o1) = some o2 → ∃ p, bkPos s ks s.length (fxOf c0 s1) i = some p ∧ isArr o2 = isArr o1 ∧ obVer o2 = (if isArr o1 = true then p.2 else 0) ∧ (∀ oi, obFits o1 oi → obFits o2 oi) ∧ (∀ oi m, obWide o1 oi m → obWide o2 oi m) ∧
      (∀ blk, Cells g1 (obCells o1) blk → Cells g2 (obCells o2) blk) ∧ (obCells o2).length = (obCells o1).length ∧ ∀ ver e l, o1 = .arr ver e l → o2 = .arr p.2 e l := by
    intro i o1 o2 h
    obtain ⟨p, hp⟩ : ∃ p, bkPos s ks s.length (fxOf c0 s1) i = some p := by
      unfold bkPos
      cases hk : ks[i]? with
      | none => exact ⟨_, rfl⟩
      | some k =>
        obtain ⟨o, ho⟩ := hlive k (List.mem_of_getElem? hk)
        simp [rd_some.2 ho]
    refine ⟨p, hp, ?_⟩
    unfold bkOb at h
    rw [hp] at h
    cases o1 with
    | cells cs =>
      simp only [rnOb, setVer, Option.some.injEq] at h
      subst h
      refine ⟨rfl, rfl, fun _ _ => trivial, fun _ _ _ => trivial, fun blk hc => ⟨by simp only [obCells, rnL_length]; exact hc.le, fun j u hj => ?_⟩, by simp [obCells, rnL_length], fun _ _ _ h => by cases h⟩
      obtain ⟨c, c1, rfl⟩ := rnL_get hj
      obtain ⟨x, x1, x2, x3⟩ := hc.at_ j c c1
      exact ⟨x, x1, x2, hR c x x3⟩
    | arr ver e l =>
      simp only [rnOb, setVer, Option.some.injEq] at h
      subst h
      exact ⟨rfl, by simp [obVer, isArr], fun _ h => h, fun _ _ h => h, fun blk hc => hc.pure encs_pure (fun _ _ h => h), rfl, fun _ _ _ h => by cases h; rfl⟩
  have hsplit : ∀ k o2, s2[k]? = some (some o2) → (posOf ks k = none ∧ k < s.length ∧ s[k]? = some (some o2)) ∨ ∃ i o1 p, s1[i]? = some (some o1) ∧ bkOb s ks s.length (fxOf c0 s1) s1 i (some o1) = some o2 ∧ bkPos s ks s.length (fxOf c0 s1) i = some p ∧ p.1 = k := by
    intro k o2 h2
    rw [hget] at h2
    cases hp : posOf ks k with
    | none =>
      rw [hp] at h2
      simp only at h2
      split at h2
      · rename_i hk; exact .inl ⟨rfl, hk, h2⟩
      · rename_i hk
        right
        cases h1 : s1[ks.length + (k - s.length)]? with
        | none => simp [h1] at h2
        | some o1 =>
          simp only [h1, Option.map_some, Option.some.injEq] at h2
          cases o1 with
          | none => simp [bkOb, rnOb, setVer] at h2
          | some o1 =>
            obtain ⟨p, hp, _⟩ := hbk _ _ _ h2
            refine ⟨_, o1, p, h1, h2, hp, ?_⟩
            rcases hpos _ _ hp with ⟨k', o, a1, _, _⟩ | ⟨_, rfl⟩
            · have := (List.getElem?_eq_some_iff.1 a1).1; omega
            · simp only; omega
    | some i =>
      rw [hp] at h2
      simp only [Option.some.injEq] at h2
      right
      have hik := posOf_some hp
      obtain ⟨o, o1, b1, b2, _⟩ := hold i k hik
      rw [rd_some.2 b2] at h2
      obtain ⟨p, hp2, _⟩ := hbk _ _ _ h2
      refine ⟨i, o1, p, b2, h2, hp2, ?_⟩
      rcases hpos _ _ hp2 with ⟨k', o', a1, _, rfl⟩ | ⟨a1, _⟩
      · rw [hik] at a1; injection a1 with a1; exact a1.symm
      · have := (List.getElem?_eq_some_iff.1 hik).1; omega
  have hblkB : ∀ i o1 o2 p, s1[i]? = some (some o1) → bkOb s ks s.length (fxOf c0 s1) s1 i (some o1) = some o2 → bkPos s ks s.length (fxOf c0 s1) i = some p → obBlk g2 p.1 o2 = obBlk g1 i o1 := by
    intro i o1 o2 p h1 h2 hp
    obtain ⟨p', hp', a1, a2, _⟩ := hbk i o1 o2 h2
    rw [hp] at hp'
    injection hp' with hp'
    subst hp'
    unfold obBlk
    rw [a1, a2, hob2 i o1 p h1 hp]
  have hblkA : ∀ k o2, posOf ks k = none → k < s.length → obBlk g2 k o2 = obBlk g k o2 := fun k o2 h1 h2 => by unfold obBlk; rw [hfr k _ h1 h2]
  have hown0 : ∀ b, Own g0 (rnS s false ks) b → Own g s b := fun b hb => by obtain ⟨k, o, _, h1, h2⟩ := k7 b hb; exact ⟨k, o, h1, h2⟩
  have hframe : ∀ k o2 b, posOf ks k = none → s[k]? = some (some o2) → obBlk g k o2 = some b → ¬ Own g0 (rnS s false ks) b ∧ b < w.heap.size := by
    intro k o2 b h1 h2 h3
    refine ⟨fun hb => ?_, hg.lt_own ⟨k, o2, h2, h3⟩⟩
    obtain ⟨k', o', c1, c2, c3⟩ := k7 b hb
    have : k = k' := hg.inj k k' _ _ b h2 c2 h3 c3
    subst this
    exact posOf_none h1 c1
  have hB : ∀ i o1 b, s1[i]? = some (some o1) → obBlk g1 i o1 = some b → Own g0 (rnS s false ks) b ∨ w.heap.size ≤ b := fun i o1 b h1 h2 => st1.own b ⟨i, o1, h1, h2⟩
  have hg2 : Good g2 s2 w1 := by
    refine ⟨fun b cs hb => ?_, fun k o2 ho2 => ?_, fun k k' o2 o2' b h1 h2 h3 h4 => ?_, fun k v oi hv => ?_⟩
    · obtain ⟨blk, E, fr, p2, p3⟩ := g1ok.ro b cs hb
      exact ⟨blk, E, fr, p2, p3.pure fun _ _ h => h⟩
    · rcases hsplit k o2 ho2 with ⟨a1, a2, a3⟩ | ⟨i, o1, p, a1, a2, a3, rfl⟩
      · obtain ⟨oi, q1, q2, q3⟩ := hg.obj k o2 a3
        refine ⟨oi, by rw [hfr k _ a1 a2]; exact q1, q2, ?_⟩
        by_cases hreal : isArr o2 = true ∧ oi.cap = 0
        · exact .inl hreal
        rcases q3 with q3 | ⟨q3, blk, E, fr, q4, q5, q6, q7⟩
        · exact absurd q3 hreal
        obtain ⟨f1, f2⟩ := hframe k o2 oi.b a1 a3 (blk_of q1 hreal)
        refine .inr ⟨?_, blk, E, fr, by rw [st1.block _ f2 f1]; exact q4, q5, q6.mono hle, q7⟩
        show (∀ cs0, ¬ g1.ro oi.b cs0)
        intro cs hro
        · rcases st1.new _ _ hro with h5 | h5 | h5
          · rw [k6] at h5; exact q3 _ h5
          · exact absurd h5 f1
          · omega
      · obtain ⟨oi, q1, q2, q3⟩ := g1ok.obj i o1 a1
        obtain ⟨p', hp', c1, c2, c3, c4, c5, _⟩ := hbk i o1 o2 a2
        rw [a3] at hp'
        injection hp' with hp'
        subst hp'
        refine ⟨oi, by rw [c2, hob2 i o1 p a1 a3]; exact q1, c3 oi q2, ?_⟩
        unfold obRow
        rw [c1]
        rcases q3 with q3 | ⟨q3, blk, E, fr, q4, q5, q6, q7⟩
        · exact .inl q3
        · exact .inr ⟨q3, blk, E, fr, q4, q5, c5 blk q6, c4 oi _ q7⟩
    · rcases hsplit k o2 h1 with ⟨a1, a2, a3⟩ | ⟨i, o1, p, a1, a2, a3, rfl⟩ <;> rcases hsplit k' o2' h2 with ⟨b1, b2, b3⟩ | ⟨i', o1', p', b1, b2, b3, rfl⟩
      · rw [hblkA k o2 a1 a2] at h3
        rw [hblkA k' o2' b1 b2] at h4
        exact hg.inj k k' o2 o2' b a3 b3 h3 h4
      · exfalso
        rw [hblkA k o2 a1 a2] at h3
        rw [hblkB i' o1' o2' p' b1 b2 b3] at h4
        obtain ⟨f1, f2⟩ := hframe k o2 b a1 a3 h3
        rcases hB i' o1' b b1 h4 with h5 | h5
        · exact f1 h5
        · omega
      · exfalso
        rw [hblkB i o1 o2 p a1 a2 a3] at h3
        rw [hblkA k' o2' b1 b2] at h4
        obtain ⟨f1, f2⟩ := hframe k' o2' b b1 b3 h4
        rcases hB i o1 b a1 h3 with h5 | h5
        · exact f1 h5
        · omega
      · rw [hblkB i o1 o2 p a1 a2 a3] at h3
        rw [hblkB i' o1' o2' p' b1 b2 b3] at h4
        have : i = i' := g1ok.inj i i' o1 o1' b a1 b1 h3 h4
        subst this
        rw [a3] at b3
        injection b3 with b3
        rw [b3]
    · have hv : ob2 k v = some oi := hv
      simp only [ob2] at hv
      cases hp : posOf ks k with
      | some i =>
        have hik := posOf_some hp
        obtain ⟨o, o1, b1, b2, b3, b4, b5⟩ := hold i k hik
        have hk : k < s.length := hklt k (List.mem_of_getElem? hik)
        simp only [hp, rd_some.2 b1, rd_some.2 b2] at hv
        refine ⟨by omega, fun o2 ho2 => ?_⟩
        rw [hget, hp] at ho2
        simp only [Option.some.injEq, rd_some.2 b2] at ho2
        obtain ⟨p, hp2, c1, c2, _⟩ := hbk i o1 o2 ho2
        rcases hpos i p hp2 with ⟨k', o', d1, d2, rfl⟩ | ⟨d1, _⟩
        · rw [hik] at d1
          injection d1 with d1
          subst d1
          rw [b1] at d2
          simp only [Option.some.injEq] at d2
          subst d2
          rw [c2]
          cases o1 with
          | cells cs =>
            simp only [isArr, Bool.false_eq_true, if_false]
            have := (hg.old k v oi hv).2 o b1
            cases o with
            | cells cs => simpa [obVer] using this
            | arr => simp [isArr] at b3
          | arr v1 e l =>
            simp only [isArr, if_true]
            simp only at hv
            split at hv
            · rename_i hc
              rw [hc.1]
              exact Nat.le_of_eq hc.2
            · have := (hg.old k v oi hv).2 o b1
              cases fxOf c0 s1 i
              · exact Nat.le_succ_of_le this
              · exact this
        · have := (List.getElem?_eq_some_iff.1 hik).1; omega
      | none =>
        simp only [hp] at hv
        split at hv
        · rename_i hk
          obtain ⟨e1, e2⟩ := hg.old k v oi hv
          refine ⟨by omega, fun o2 ho2 => e2 o2 ?_⟩
          rw [hget, hp] at ho2
          simp only [hk, if_true] at ho2
          exact ho2
        · rename_i hk
          split at hv
          case isFalse => cases hv
          rename_i hv0
          split at hv
          case h_2 => cases hv
          rename_i o1 ho1
          have := (List.getElem?_eq_some_iff.1 (rd_some.1 ho1)).1
          exact ⟨by omega, fun o2 _ => by rw [hv0]; exact Nat.zero_le _⟩
  refine ⟨g2, s2, hg2, ⟨hle, fun k u hk => hfr k u (by
    cases hp : posOf ks k with
    | none => rfl
    | some i => obtain ⟨o, ho⟩ := hlive k (List.mem_of_getElem? (posOf_some hp)); rw [hk] at ho; cases ho) (List.getElem?_eq_some_iff.1 hk).1⟩, fun b0 => ⟨st1.os, st1.tape, st1.output, st1.size, fun b hb hno => st1.block b hb fun h => hno (hown0 b h), hle.ro, fun b hb => ?_, fun b cs hb => ?_, fun k _ o ho => ?_, fun k _ ver e l ho => ?_⟩, ?_⟩
  · obtain ⟨k, o2, h1, h2⟩ := hb
    rcases hsplit k o2 h1 with ⟨a1, a2, a3⟩ | ⟨i, o1, p, a1, a2, a3, rfl⟩
    · rw [hblkA k o2 a1 a2] at h2
      exact .inl ⟨k, o2, a3, h2⟩
    · rw [hblkB i o1 o2 p a1 a2 a3] at h2
      exact (hB i o1 b a1 h2).imp (hown0 b) id
  · rcases st1.new b cs hb with h5 | h5 | h5
    · rw [k6] at h5; exact .inl h5
    · exact .inr (.inl (hown0 b h5))
    · exact .inr (.inr h5)
  · have hk : k < s.length := (List.getElem?_eq_some_iff.1 ho).1
    cases hp : posOf ks k with
    | none =>
      have h2 : s2[k]? = some (some o) := by rw [hget, hp]; simp only [hk, if_true]; exact ho
      cases o with
      | cells cs => exact ⟨cs, h2, rfl, hfr k 0 hp hk⟩
      | arr ver e l => exact ⟨ver, l, h2⟩
    | some i =>
      have hik := posOf_some hp
      obtain ⟨o', o1, b1, b2, b3, b4, b5⟩ := hold i k hik
      rw [ho] at b1
      simp only [Option.some.injEq] at b1
      subst b1
      have h2 : s2[k]? = some (bkOb s ks s.length (fxOf c0 s1) s1 i (some o1)) := by rw [hget, hp]; simp only [rd_some.2 b2]
      obtain ⟨o2, ho2⟩ : ∃ o2, bkOb s ks s.length (fxOf c0 s1) s1 i (some o1) = some o2 := by
        unfold bkOb
        cases o1 with
        | cells cs => exact ⟨_, rfl⟩
        | arr ver e l => exact ⟨_, rfl⟩
      obtain ⟨p, hp2, c1, _, _, _, _, c6, c7⟩ := hbk i o1 o2 ho2
      rw [ho2] at h2
      cases o with
      | cells cs =>
        cases o2 with
        | cells cs2 =>
          refine ⟨cs2, h2, ?_, ?_⟩
          · have := (b4 rfl).2
            simp only [obCells] at c6 this
            omega
          · show ob2 k 0 = _
            simp only [ob2, hp, rd_some.2 ho, rd_some.2 b2]
            cases o1 with
            | cells => rfl
            | arr => simp [isArr] at b3
        | arr => rw [b3] at c1; simp [isArr] at c1
      | arr ver e l =>
        obtain ⟨ver', l', rfl⟩ := b5 ver e l rfl
        have := c7 _ _ _ rfl
        subst this
        exact ⟨_, _, h2⟩
  · have hk : k < s.length := (List.getElem?_eq_some_iff.1 ho).1
    cases hp : posOf ks k with
    | none => exact ⟨ver, l, by rw [hget, hp]; simp only [hk, if_true]; exact ho, fun e0 => ⟨e0, hfr k 0 hp hk⟩⟩
    | some i =>
      have hik := posOf_some hp
      obtain ⟨o', o1, b1, b2, b3, b4, b5⟩ := hold i k hik
      rw [ho] at b1
      simp only [Option.some.injEq] at b1
      subst b1
      have h2 : s2[k]? = some (bkOb s ks s.length (fxOf c0 s1) s1 i (some o1)) := by rw [hget, hp]; simp only [rd_some.2 b2]
      obtain ⟨o2, ho2⟩ : ∃ o2, bkOb s ks s.length (fxOf c0 s1) s1 i (some o1) = some o2 := by
        unfold bkOb
        cases o1 with
        | cells cs => exact ⟨_, rfl⟩
        | arr ver e l => exact ⟨_, rfl⟩
      obtain ⟨p, hp2, c1, _, _, _, _, c6, c7⟩ := hbk i o1 o2 ho2
      rw [ho2] at h2
      obtain ⟨ver', l', rfl⟩ := b5 ver e l rfl
      have := c7 _ _ _ rfl
      subst this
      refine ⟨_, _, h2, fun e0 => ?_⟩
      rcases hpos i p hp2 with ⟨k', o', d1, d2, rfl⟩ | ⟨d1, _⟩
      · rw [hik] at d1
        injection d1 with d1
        subst d1
        rw [ho] at d2
        simp only [Option.some.injEq] at d2
        subst d2
        cases hfx : fxOf c0 s1 i with
        | false => rw [hfx] at e0; simp at e0
        | true =>
          rw [hfx] at e0
          simp only [obVer] at e0
          subst e0
          obtain ⟨oi, h1, _⟩ := hg.obj k _ ho
          have h1 : g.ob k 0 = some oi := h1
          exact ⟨rfl, by rw [h1]; exact hle.ob _ _ _ h1⟩
      · have := (List.getElem?_eq_some_iff.1 hik).1; omega
  · cases e with
    | returned x => obtain ⟨r, r1, r2⟩ := hend; exact ⟨_, by rw [hs2]; exact r1, hR _ _ r2⟩
    | panicked ch => obtain ⟨v, u, e1, u1, u2⟩ := hend; exact ⟨v, _, e1, by rw [hs2]; exact u1, hR _ _ u2⟩
    | outgrown => exact hend.elim
end
end Go.Proofs.Ythjikjhddddplaa
