/-
  The machine over typed values, 17: parts of a store that an operation sees. No program in sight.
-/
import Derived.Test.YthjikjhddddplaaMD1
namespace Go.Proofs.Ythjikjhddddplaa
set_option linter.unusedVariables false
set_option linter.unusedSimpArgs false
open Go.RowKit

def maskL (m : Nat) : Nat → St → St
  | _, [] => []
  | k, o :: r => (match m.testBit k with
    | true => o
    | false => none) :: maskL m (k + 1) r
def back (m : Nat) : Nat → St → St → St
  | _, [], _ => []
  | _, s, [] => s
  | k, o :: r, o' :: r' => (match m.testBit k with
    | true => o'
    | false => o) :: back m (k + 1) r r'
mutual
/-- Object n lies at p. -/
def fixV (n p : Nat) : T → T
  | .oa e k ver => .oa e (if k = n then p else k) ver
  | .os e k ver off c => .os e (if k = n then p else k) ver off c
  | .pt k off => .pt (if k = n then p else k) off
  | .pe e k ver i j => .pe e (if k = n then p else k) ver i j
  | .ag cs => .ag (fixL n p cs)
  | .tu cs => .tu (fixL n p cs)
  | .fn f xs ys => .fn f (fixL n p xs) (fixL n p ys)
  | .ic t v => .ic t (fixV n p v)
  | v => v
def fixL (n p : Nat) : List T → List T
  | [] => []
  | v :: r => fixV n p v :: fixL n p r
end
def fixOb (n p : Nat) : Ob → Ob
  | .cells cs => .cells (fixL n p cs)
  | o => o
theorem maskL_length {m : Nat} : ∀ {s : St} {k : Nat}, (maskL m k s).length = s.length
  | [], _ => rfl
  | _ :: r, k => by simp [maskL, maskL_length (s := r)]
theorem maskL_get {m : Nat} : ∀ {s : St} {k i : Nat}, (maskL m k s)[i]? = (s[i]?).map fun o => if m.testBit (k + i) = true then o else none
  | [], _, _ => by simp [maskL]
  | o :: r, k, 0 => by
    simp only [maskL, List.getElem?_cons_zero, Option.map_some, Nat.add_zero]
    cases m.testBit k <;> rfl
  | o :: r, k, i + 1 => by
    simp only [maskL, List.getElem?_cons_succ]
    rw [maskL_get, show k + 1 + i = k + (i + 1) by omega]
theorem back_length {m : Nat} : ∀ {s s' : St} {k : Nat}, (back m k s s').length = s.length
  | [], _, _ => by simp [back]
  | _ :: r, [], k => by simp [back]
  | _ :: r, _ :: r', k => by simp [back, back_length (s := r)]
theorem back_get {m : Nat} : ∀ {s s' : St} {k i : Nat}, s'.length = s.length → (back m k s s')[i]? = if m.testBit (k + i) = true then s'[i]? else s[i]?
  | [], s', _, _, h => by
    have : s' = [] := List.eq_nil_of_length_eq_zero h
    subst this
    simp [back]
  | _ :: r, [], _, _, h => by simp at h
  | o :: r, o' :: r', k, 0, h => by
    simp only [back, List.getElem?_cons_zero, Nat.add_zero]
    cases m.testBit k <;> simp
  | o :: r, o' :: r', k, i + 1, h => by
    simp only [back, List.getElem?_cons_succ]
    rw [back_get (by simpa using h), show k + 1 + i = k + (i + 1) by omega]
theorem back_mask {m : Nat} {s : St} : back m 0 s (maskL m 0 s) = s := by
  refine List.ext_getElem? fun i => ?_
  rw [back_get maskL_length, maskL_get]
  split
  · rename_i h
    cases s[i]? with
    | none => rfl
    | some o => simp [h]
  · rfl
theorem fixL_length {n p : Nat} : ∀ {l : List T}, (fixL n p l).length = l.length
  | [] => rfl
  | _ :: r => by simp [fixL, fixL_length (l := r)]
theorem fixL_get {n p : Nat} : ∀ {l : List T} {i : Nat}, (fixL n p l)[i]? = (l[i]?).map (fixV n p)
  | [], _ => by simp [fixL]
  | _ :: _, 0 => by simp [fixL]
  | _ :: r, i + 1 => by simp only [fixL, List.getElem?_cons_succ]; exact fixL_get
theorem fixL_id {n p : Nat} {l : List T} (h : ∀ (i : Nat) (c : T), l[i]? = some c → fixV n p c = c) : fixL n p l = l := by
  refine List.ext_getElem? fun i => ?_
  rw [fixL_get]
  cases hc : l[i]? with
  | none => rfl
  | some c => simp [h i c hc]

section
variable {g g' : G} {s s' : St} {w w' : World} {m n p : Nat}
theorem fix_id (hn : ∀ v, g.ob n v = none) {u : T} {x : Value} (h : R g u x) : fixV n p u = u := by
  induction h with
  | oa e k ver oi A h1 =>
    have : k ≠ n := by rintro rfl; rw [hn] at h1; cases h1
    simp [fixV, this]
  | os e k ver off c oi A c' h1 =>
    have : k ≠ n := by rintro rfl; rw [hn] at h1; cases h1
    simp [fixV, this]
  | pt k off oi h1 =>
    have : k ≠ n := by rintro rfl; rw [hn] at h1; cases h1
    simp [fixV, this]
  | pe e k ver i j oi h1 =>
    have : k ≠ n := by rintro rfl; rw [hn] at h1; cases h1
    simp [fixV, this]
  | ag cs xs h1 _ _ ih =>
    simp only [fixV]
    rw [fixL_id fun i c hc => by
      have hi : i < xs.size := by rw [← h1]; exact (List.getElem?_eq_some_iff.1 hc).1
      exact ih i c _ hc (Array.getElem?_eq_getElem hi)]
  | tu cs xs h1 _ ih =>
    simp only [fixV]
    rw [fixL_id fun i c hc => by
      have hi : i < xs.size := by rw [← h1]; exact (List.getElem?_eq_some_iff.1 hc).1
      exact ih i c _ hc (Array.getElem?_eq_getElem hi)]
  | fn f as bs xs ys h1 h2 _ _ ih1 ih2 =>
    simp only [fixV]
    rw [fixL_id (l := as) fun i c hc => by
      have hi : i < xs.size := by rw [← h1]; exact (List.getElem?_eq_some_iff.1 hc).1
      exact ih1 i c _ hc (Array.getElem?_eq_getElem hi), fixL_id (l := bs) fun i c hc => by
      have hi : i < ys.size := by rw [← h2]; exact (List.getElem?_eq_some_iff.1 hc).1
      exact ih2 i c _ hc (Array.getElem?_eq_getElem hi)]
  | ic t v x _ ih => simp only [fixV, ih]
  | _ => rfl
def G.move (g : G) (n p : Nat) : G := { g with ob := fun k v => if k = p then g.ob n v else if k = n then none else g.ob k v }
theorem fixL_all {l : List T} {ys : Array Value} {p : T → Value → Prop} {n q : Nat} (h : ∀ (i : Nat) (c : T) (x : Value), l[i]? = some c → ys[i]? = some x → p (fixV n q c) x) : ∀ (i : Nat) (c : T) (x : Value), (fixL n q l)[i]? = some c → ys[i]? = some x → p c x := fun i c x hc hx => by
  rw [fixL_get, Option.map_eq_some_iff] at hc
  obtain ⟨c0, c1, rfl⟩ := hc
  exact h i c0 x c1 hx
theorem fix_R (hp : ∀ v, g.ob p v = none) (hne : p ≠ n) {u : T} {x : Value} (h : R g u x) : R (g.move n p) (fixV n p u) x := by
  have key : ∀ k v oi, g.ob k v = some oi → (g.move n p).ob (if k = n then p else k) v = some oi := by
    intro k v oi h
    by_cases e : k = n
    · subst e; simp [G.move, h]
    · have : k ≠ p := by rintro rfl; rw [hp] at h; cases h
      simp [G.move, e, this, h]
  induction h with
  | undef x => exact .undef x
  | int k n => exact .int k n
  | bool b => exact .bool b
  | str s => exact .str s
  | cst v => exact .cst v
  | ub b => exact .ub b
  | nil A => exact .nil A
  | sl full e l A c h1 h2 h3 h4 => exact .sl full e l A c h1 h2 h3 h4
  | oa e k ver oi A h1 h2 h3 h4 => exact .oa e _ ver oi A (key _ _ _ h1) h2 h3 h4
  | os e k ver off n oi A c h1 h2 h3 h4 h5 h6 => exact .os e _ ver off n oi A c (key _ _ _ h1) h2 h3 h4 h5 h6
  | pt k off oi h1 => exact .pt _ off oi (key _ _ _ h1)
  | pe e k ver i j oi h1 h2 => exact .pe e _ ver i j oi (key _ _ _ h1) h2
  | pr e x j b off cs h1 h2 => exact .pr e x j b off cs h1 h2
  | ag cs xs h1 _ h3 ih => exact .ag _ xs (by rw [fixL_length]; exact h1) (fixL_all ih) h3
  | tu cs xs h1 _ ih => exact .tu _ xs (by rw [fixL_length]; exact h1) (fixL_all ih)
  | fn f as bs xs ys h1 h2 _ _ ih1 ih2 => exact .fn f (fixL _ p as) (fixL _ p bs) xs ys (by rw [fixL_length]; exact h1) (by rw [fixL_length]; exact h2) (fixL_all ih1) (fixL_all ih2)
  | ic t v x _ ih => exact .ic t _ x ih

theorem mask_some {k : Nat} {o : Ob} (h : (maskL m 0 s)[k]? = some (some o)) : s[k]? = some (some o) ∧ m.testBit k = true := by
  rw [maskL_get, Option.map_eq_some_iff] at h
  obtain ⟨o', h1, h2⟩ := h
  rw [Nat.zero_add] at h2
  split at h2
  · rename_i hb; subst h2; exact ⟨h1, hb⟩
  · cases h2
theorem mask_none {k : Nat} (h : s[k]? ≠ none) (hb : m.testBit k = false) : (maskL m 0 s)[k]? = some none := by
  rw [maskL_get, Nat.zero_add, hb]
  cases hs : s[k]? with
  | none => exact absurd hs h
  | some o => simp
theorem good_mask (hg : Good g s w) : Good g (maskL m 0 s) w :=
  ⟨hg.ro, fun k o h => hg.obj k o (mask_some h).1, fun k k' o o' b h1 h2 h3 h4 => hg.inj k k' o o' b (mask_some h1).1 (mask_some h2).1 h3 h4, fun k v oi h => by
    obtain ⟨h1, h2⟩ := hg.old k v oi h
    exact ⟨by rw [maskL_length]; exact h1, fun o ho => h2 o (mask_some ho).1⟩⟩
theorem own_mask {b : Nat} (h : Own g (maskL m 0 s) b) : Own g s b := by
  obtain ⟨k, o, h1, h2⟩ := h
  exact ⟨k, o, (mask_some h1).1, h2⟩
/-- An object that is hidden stays as it was. -/
theorem hid_row (hg : Good g s w) (hs : ∀ b0, Step b0 g (maskL m 0 s) w g' s' w') (hl : GL g (maskL m 0 s) g') {k : Nat} {o : Ob} (h : s[k]? = some (some o)) (hb : m.testBit k = false) :
    (∀ v, g'.ob k v = g.ob k v) ∧ ∃ oi, g.ob k (obVer o) = some oi ∧ obFits o oi ∧ ((isArr o = true ∧ oi.cap = 0) ∨ ((∀ cs0, ¬ g'.ro oi.b cs0) ∧ ∃ (blk : Array Value) (E : TypeId) (fr : Nat × Nat), w'.heap[oi.b]? = some (.cells blk E fr) ∧ (∀ q, q < blk.size → ¬ (fr.1 ≤ q ∧ q < fr.2)) ∧ Cells g (obCells o) blk ∧ obWide o oi blk.size)) := by
  refine ⟨fun v => hl.hid k v (mask_none (by rw [h]; simp) hb), ?_⟩
  obtain ⟨oi, h1, h2, h3⟩ := hg.obj k o h
  refine ⟨oi, h1, h2, ?_⟩
  by_cases hn : isArr o = true ∧ oi.cap = 0
  · exact .inl hn
  rcases h3 with h3 | ⟨h3, blk, E, fr, h4, h5, h6, h7⟩
  · exact .inl h3
  have hblk : obBlk g k o = some oi.b := by unfold obBlk; rw [h1]; simp only; rw [if_neg hn]
  have hno : ¬ Own g (maskL m 0 s) oi.b := by
    rintro ⟨k', o', a1, a2⟩
    obtain ⟨a3, a4⟩ := mask_some a1
    have := hg.inj k k' o o' oi.b h a3 hblk a2
    subst this
    rw [hb] at a4; cases a4
  have hlt := (Array.getElem?_eq_some_iff.1 h4).1
  refine .inr ⟨?_, blk, E, fr, by rw [(hs ⟨0, 0⟩).block _ hlt hno]; exact h4, h5, h6, h7⟩
  intro cs hr
  · rcases (hs ⟨0, 0⟩).new _ _ hr with h8 | h8 | h8
    · exact h3 _ h8
    · exact absurd h8 hno
    · omega
/-- What an operation did to what it saw. -/
theorem good_back (hg : Good g s w) (hg' : Good g' s' w') (hs : ∀ b0, Step b0 g (maskL m 0 s) w g' s' w') (hl : GL g (maskL m 0 s) g') (hlen : s'.length = s.length) :
    Good g' (back m 0 s s') w' ∧ (∀ b0, Step b0 g s w g' (back m 0 s s') w') ∧ GL g s g' := by
  have hget : ∀ k, (back m 0 s s')[k]? = if m.testBit k = true then s'[k]? else s[k]? := fun k => by rw [back_get hlen, Nat.zero_add]
  have hcase : ∀ k o, (back m 0 s s')[k]? = some (some o) → (m.testBit k = true ∧ s'[k]? = some (some o)) ∨ (m.testBit k = false ∧ s[k]? = some (some o)) := fun k o h => by
    rw [hget] at h
    split at h
    · rename_i hb; exact .inl ⟨hb, h⟩
    · rename_i hb; exact .inr ⟨by simpa using hb, h⟩
  have hblkH : ∀ k o, m.testBit k = false → s[k]? = some (some o) → obBlk g' k o = obBlk g k o := fun k o hb h => by
    unfold obBlk; rw [(hid_row hg hs hl h hb).1]
  have hcross : ∀ k o k' o' b, m.testBit k = false → s[k]? = some (some o) → obBlk g k o = some b → s'[k']? = some (some o') → obBlk g' k' o' = some b → False := by
    intro k o k' o' b hb h hob h' hob'
    rcases (hs ⟨0, 0⟩).own b ⟨k', o', h', hob'⟩ with ⟨k2, o2, a1, a2⟩ | h1
    · obtain ⟨a3, a4⟩ := mask_some a1
      have := hg.inj k k2 o o2 b h a3 hob a2
      subst this
      rw [hb] at a4; cases a4
    · have := hg.lt_own ⟨k, o, h, hob⟩; omega
  refine ⟨⟨hg'.ro, fun k o h => ?_, fun k k' o o' b h h' hb hb' => ?_, fun k v oi h => ?_⟩, fun b0 => ⟨(hs ⟨0, 0⟩).os, (hs ⟨0, 0⟩).tape, (hs ⟨0, 0⟩).output, (hs ⟨0, 0⟩).size, fun b hb hno => (hs ⟨0, 0⟩).block b hb fun ho => hno (own_mask ho), (hs ⟨0, 0⟩).ro, fun b hb => ?_, fun b cs hb => ?_, fun k _ o ho => ?_, fun k _ ver e l ho => ?_⟩, ⟨hl.le, fun k u hk => ?_⟩⟩
  · rcases hcase k o h with ⟨_, h1⟩ | ⟨h0, h1⟩
    · exact hg'.obj k o h1
    · obtain ⟨e, oi, a1, a2, a3⟩ := hid_row hg hs hl h1 h0
      refine ⟨oi, by rw [e]; exact a1, a2, ?_⟩
      rcases a3 with a3 | ⟨a3, blk, E, fr, a4, a5, a6, a7⟩
      · exact .inl a3
      · exact .inr ⟨a3, blk, E, fr, a4, a5, a6.mono hl.le, a7⟩
  · rcases hcase k o h with ⟨_, h1⟩ | ⟨h0, h1⟩ <;> rcases hcase k' o' h' with ⟨_, h2⟩ | ⟨h0', h2⟩
    · exact hg'.inj k k' o o' b h1 h2 hb hb'
    · rw [hblkH k' o' h0' h2] at hb'
      exact (hcross k' o' k o b h0' h2 hb' h1 hb).elim
    · rw [hblkH k o h0 h1] at hb
      exact (hcross k o k' o' b h0 h1 hb h2 hb').elim
    · rw [hblkH k o h0 h1] at hb
      rw [hblkH k' o' h0' h2] at hb'
      exact hg.inj k k' o o' b h1 h2 hb hb'
  · obtain ⟨h1, h2⟩ := hg'.old k v oi h
    refine ⟨by rw [back_length, ← hlen]; exact h1, fun o ho => ?_⟩
    rcases hcase k o ho with ⟨_, h3⟩ | ⟨h0, h3⟩
    · exact h2 o h3
    · rw [(hid_row hg hs hl h3 h0).1] at h
      exact (hg.old k v oi h).2 o h3
  · obtain ⟨k, o, h, hob⟩ := hb
    rcases hcase k o h with ⟨_, h1⟩ | ⟨h0, h1⟩
    · exact ((hs ⟨0, 0⟩).own b ⟨k, o, h1, hob⟩).imp own_mask id
    · rw [hblkH k o h0 h1] at hob
      exact .inl ⟨k, o, h1, hob⟩
  · rcases (hs ⟨0, 0⟩).new b cs hb with h1 | h1 | h1
    · exact .inl h1
    · exact .inr (.inl (own_mask h1))
    · exact .inr (.inr h1)
  · by_cases hb : m.testBit k = true
    · have hk := (hs ⟨k + 1, k + 1⟩).kept k (Nat.lt_succ_self k) o (by rw [maskL_get, ho, Nat.zero_add]; simp [hb])
      cases o with
      | cells cs =>
        obtain ⟨cs', a1, a2⟩ := hk
        exact ⟨cs', by rw [hget, if_pos hb]; exact a1, a2⟩
      | arr ver e l =>
        obtain ⟨ver', l', a1⟩ := hk
        exact ⟨ver', l', by rw [hget, if_pos hb]; exact a1⟩
    · have hb' : m.testBit k = false := by simpa using hb
      cases o with
      | cells cs => exact ⟨cs, by rw [hget, if_neg hb]; exact ho, rfl, (hid_row hg hs hl ho hb').1 0⟩
      | arr ver e l => exact ⟨ver, l, by rw [hget, if_neg hb]; exact ho⟩
  · by_cases hb : m.testBit k = true
    · obtain ⟨ver', l', a1, a2⟩ := (hs ⟨k + 1, k + 1⟩).fixd k (Nat.lt_succ_self k) ver e l (by rw [maskL_get, ho, Nat.zero_add]; simp [hb])
      exact ⟨ver', l', by rw [hget, if_pos hb]; exact a1, a2⟩
    · have hb' : m.testBit k = false := by simpa using hb
      exact ⟨ver, l, by rw [hget, if_neg hb]; exact ho, fun e0 => ⟨e0, (hid_row hg hs hl ho hb').1 0⟩⟩
  · refine hl.hid k u ?_
    rw [maskL_get, hk]
    simp
/-- A new object, in a place that was kept free. -/
theorem good_new (hg : Good g s w) {o : Ob} (hg' : Good g' (maskL m 0 s ++ [some o]) w') (hs : ∀ b0, Step b0 g (maskL m 0 s) w g' (maskL m 0 s ++ [some o]) w') (hl : GL g (maskL m 0 s) g') (hp : s[p]? = some none) (hpg : ∀ v, g.ob p v = none) :
    Good (g'.move s.length p) (s.set p (some (fixOb s.length p o))) w' ∧ (∀ b0, Step b0 g s w (g'.move s.length p) (s.set p (some (fixOb s.length p o))) w') ∧ g.le (g'.move s.length p) ∧
    (∀ (k u : Nat), s[k]? = some none → k ≠ p → (g'.move s.length p).ob k u = g.ob k u) ∧ ∀ v x, R g' v x → R (g'.move s.length p) (fixV s.length p v) x := by
  have hpl : p < s.length := (List.getElem?_eq_some_iff.1 hp).1
  have hml : (maskL m 0 s).length = s.length := maskL_length
  have hpg' : ∀ v, g'.ob p v = none := fun v => by
    rw [hl.hid p v (by rw [maskL_get, hp]; simp)]; exact hpg v
  have hng : ∀ v, g.ob s.length v = none := fun v => by
    cases h : g.ob s.length v with
    | none => rfl
    | some oi => have := (hg.old _ _ _ h).1; omega
  have hfix : ∀ v x, R g' v x → R (g'.move s.length p) (fixV s.length p v) x := fun v x h => fix_R hpg' (by omega) h
  have hle : g.le (g'.move s.length p) := ⟨hl.le.ro, fun k v oi h => by
    have h1 : k ≠ p := by rintro rfl; rw [hpg] at h; cases h
    have h2 : k ≠ s.length := by have := (hg.old _ _ _ h).1; omega
    simp only [G.move, if_neg h1, if_neg h2]
    exact hl.le.ob _ _ _ h⟩
  have hob : ∀ k v, k < s.length → k ≠ p → (g'.move s.length p).ob k v = g'.ob k v := fun k v h1 h2 => by
    simp only [G.move, if_neg h2]; rw [if_neg (by omega)]
  have hobp : ∀ v, (g'.move s.length p).ob p v = g'.ob s.length v := fun v => by simp [G.move]
  have hget : ∀ k, (s.set p (some (fixOb s.length p o)))[k]? = if k = p then some (some (fixOb s.length p o)) else s[k]? := fun k => by
    rw [List.getElem?_set]
    by_cases e : p = k
    · subst e; simp [hpl]
    · rw [if_neg e, if_neg (Ne.symm e)]
  have hnew : (maskL m 0 s ++ [some o])[s.length]? = some (some o) := by
    rw [List.getElem?_append_right (by omega), hml]; simp
  have hvis : ∀ k o2, s[k]? = some (some o2) → m.testBit k = true → (maskL m 0 s ++ [some o])[k]? = some (some o2) := fun k o2 h hb => by
    have hk := (List.getElem?_eq_some_iff.1 h).1
    rw [List.getElem?_append_left (by omega), maskL_get, h, Nat.zero_add]
    simp [hb]
  have hfo : obVer (fixOb s.length p o) = obVer o ∧ isArr (fixOb s.length p o) = isArr o ∧ (∀ oi, obFits o oi → obFits (fixOb s.length p o) oi) ∧ ∀ oi n, obWide o oi n → obWide (fixOb s.length p o) oi n := by
    cases o <;> exact ⟨rfl, rfl, fun _ h => h, fun _ _ h => h⟩
  have hcell : ∀ blk, Cells g' (obCells o) blk → Cells (g'.move s.length p) (obCells (fixOb s.length p o)) blk := fun blk h => by
    cases o with
    | cells cs =>
      refine ⟨by simp only [fixOb, obCells, fixL_length]; exact h.le, fun j u hj => ?_⟩
      simp only [fixOb, obCells, fixL_get, Option.map_eq_some_iff] at hj
      obtain ⟨c, c1, rfl⟩ := hj
      obtain ⟨x, x1, x2, x3⟩ := h.at_ j c c1
      exact ⟨x, x1, x2, hfix _ _ x3⟩
    | arr ver e l => exact h.pure encs_pure fun _ _ h => h
  have hblkp : obBlk (g'.move s.length p) p (fixOb s.length p o) = obBlk g' s.length o := by
    unfold obBlk; rw [hobp, hfo.1, hfo.2.1]
  have hblkV : ∀ k o2, k < s.length → k ≠ p → obBlk (g'.move s.length p) k o2 = obBlk g' k o2 := fun k o2 h1 h2 => by unfold obBlk; rw [hob k _ h1 h2]
  have hblkH : ∀ k o2, m.testBit k = false → s[k]? = some (some o2) → obBlk g' k o2 = obBlk g k o2 := fun k o hb h => by
    unfold obBlk; rw [(hid_row hg hs hl h hb).1]
  have hcross : ∀ k o2 k' o' b, m.testBit k = false → s[k]? = some (some o2) → obBlk g k o2 = some b → (maskL m 0 s ++ [some o])[k']? = some (some o') → obBlk g' k' o' = some b → False := by
    intro k o k' o' b hb h hob h' hob'
    rcases (hs ⟨0, 0⟩).own b ⟨k', o', h', hob'⟩ with ⟨k2, o2, a1, a2⟩ | h1
    · obtain ⟨a3, a4⟩ := mask_some a1
      have := hg.inj k k2 _ o2 b h a3 hob a2
      subst this
      rw [hb] at a4; cases a4
    · have := hg.lt_own ⟨k, _, h, hob⟩; omega
  -- every object of the new store, in the old worlds
  have hcase : ∀ k o2, (s.set p (some (fixOb s.length p o)))[k]? = some (some o2) → (k = p ∧ o2 = fixOb s.length p o) ∨ (k ≠ p ∧ k < s.length ∧ s[k]? = some (some o2) ∧ (m.testBit k = true ∧ (maskL m 0 s ++ [some o])[k]? = some (some o2) ∨ m.testBit k = false)) := fun k o2 h => by
    rw [hget] at h
    split at h
    · rename_i e; simp only [Option.some.injEq] at h; exact .inl ⟨e, h.symm⟩
    · rename_i e
      refine .inr ⟨e, (List.getElem?_eq_some_iff.1 h).1, h, ?_⟩
      cases hb : m.testBit k with
      | true => exact .inl ⟨rfl, hvis k o2 h hb⟩
      | false => exact .inr rfl
  have hany : ∀ k o2 b, (s.set p (some (fixOb s.length p o)))[k]? = some (some o2) → obBlk (g'.move s.length p) k o2 = some b →
      (∃ k' o', (maskL m 0 s ++ [some o])[k']? = some (some o') ∧ obBlk g' k' o' = some b ∧ (k = p ∧ k' = s.length ∨ k ≠ p ∧ k' = k ∧ k < s.length)) ∨ (m.testBit k = false ∧ s[k]? = some (some o2) ∧ obBlk g k o2 = some b) := fun k o2 b h hb => by
    rcases hcase k o2 h with ⟨rfl, rfl⟩ | ⟨h1, h2, h3, h4 | h4⟩
    · rw [hblkp] at hb
      exact .inl ⟨_, o, hnew, hb, .inl ⟨rfl, rfl⟩⟩
    · rw [hblkV k o2 h2 h1] at hb
      exact .inl ⟨k, o2, h4.2, hb, .inr ⟨h1, rfl, h2⟩⟩
    · rw [hblkV k o2 h2 h1, hblkH k o2 h4 h3] at hb
      exact .inr ⟨h4, h3, hb⟩
  refine ⟨⟨fun b cs h => ?_, fun k o2 h => ?_, fun k k' o1 o2 b h1 h2 h3 h4 => ?_, fun k v oi h => ?_⟩, fun b0 => ⟨(hs ⟨0, 0⟩).os, (hs ⟨0, 0⟩).tape, (hs ⟨0, 0⟩).output, (hs ⟨0, 0⟩).size, fun b hb hno => (hs ⟨0, 0⟩).block b hb fun ho => hno (own_mask ho), (hs ⟨0, 0⟩).ro, fun b hb => ?_, fun b cs hb => ?_, fun k _ o2 ho => ?_, fun k _ ver e l ho => ?_⟩, hle, fun k u hk hne => ?_, hfix⟩
  · obtain ⟨blk, E, fr, p2, p3⟩ := hg'.ro b cs h
    exact ⟨blk, E, fr, p2, p3.pure fun _ _ h => h⟩
  · rcases hcase k o2 h with ⟨rfl, rfl⟩ | ⟨h1, h2, h3, h4 | h4⟩
    · obtain ⟨oi, a1, a2, a3⟩ := hg'.obj _ o hnew
      refine ⟨oi, by rw [hobp, hfo.1]; exact a1, hfo.2.2.1 oi a2, ?_⟩
      unfold obRow
      rw [hfo.2.1]
      rcases a3 with a3 | ⟨a3, blk, E, fr, a4, a5, a6, a7⟩
      · exact .inl a3
      · exact .inr ⟨a3, blk, E, fr, a4, a5, hcell blk a6, hfo.2.2.2 oi _ a7⟩
    · obtain ⟨oi, a1, a2, a3⟩ := hg'.obj k o2 h4.2
      refine ⟨oi, by rw [hob k _ h2 h1]; exact a1, a2, ?_⟩
      by_cases hn : isArr o2 = true ∧ oi.cap = 0
      · exact .inl hn
      rcases a3 with a3 | ⟨a3, blk, E, fr, a4, a5, a6, a7⟩
      · exact .inl a3
      refine .inr ⟨a3, blk, E, fr, a4, a5, ⟨a6.le, fun j u hj => ?_⟩, a7⟩
      obtain ⟨x, x1, x2, x3⟩ := a6.at_ j u hj
      refine ⟨x, x1, x2, ?_⟩
      -- what the object held before says nothing of the new one
      obtain ⟨oi', b1, _, b3⟩ := hg.obj k o2 h3
      have heq : oi' = oi := by
        have := hl.le.ob _ _ _ b1
        rw [a1] at this
        exact (Option.some.inj this).symm
      subst heq
      rcases b3 with b3 | ⟨_, blk0, _, _, _, _, b6, _⟩
      · exact absurd b3 hn
      obtain ⟨x0, _, _, y3⟩ := b6.at_ j u hj
      have := hfix u x x3
      rw [fix_id hng y3] at this
      exact this
    · obtain ⟨e, oi, a1, a2, a3⟩ := hid_row hg hs hl h3 h4
      refine ⟨oi, by rw [hob k _ h2 h1, e]; exact a1, a2, ?_⟩
      rcases a3 with a3 | ⟨a3, blk, E, fr, a4, a5, a6, a7⟩
      · exact .inl a3
      · exact .inr ⟨a3, blk, E, fr, a4, a5, a6.mono hle, a7⟩
  · rcases hany k o1 b h1 h3 with ⟨k1, p1, q1, q2, q3⟩ | ⟨q1, q2, q3⟩ <;> rcases hany k' o2 b h2 h4 with ⟨k2, p2, r1, r2, r3⟩ | ⟨r1, r2, r3⟩
    · have := hg'.inj k1 k2 p1 p2 b q1 r1 q2 r2
      omega
    · exact (hcross k' o2 k1 p1 b r1 r2 r3 q1 q2).elim
    · exact (hcross k o1 k2 p2 b q1 q2 q3 r1 r2).elim
    · exact hg.inj k k' o1 o2 b q2 r2 q3 r3
  · have hlen : (maskL m 0 s ++ [some o]).length = s.length + 1 := by simp [hml]
    simp only [G.move] at h
    split at h
    · rename_i e
      subst e
      refine ⟨by simp [hpl], fun o2 ho2 => ?_⟩
      rw [hget, if_pos rfl] at ho2
      simp only [Option.some.injEq] at ho2
      subst ho2
      rw [hfo.1]
      exact (hg'.old _ v oi h).2 o hnew
    · rename_i e
      split at h
      · cases h
      · rename_i e2
        obtain ⟨h1, h2⟩ := hg'.old k v oi h
        refine ⟨by rw [List.length_set]; omega, fun o2 ho2 => ?_⟩
        rcases hcase k o2 ho2 with ⟨rfl, _⟩ | ⟨_, _, h5, h6 | h6⟩
        · exact absurd rfl e
        · exact h2 o2 h6.2
        · rw [(hid_row hg hs hl h5 h6).1] at h
          exact (hg.old k v oi h).2 o2 h5
  · obtain ⟨k, o2, h, hob2⟩ := hb
    rcases hany k o2 b h hob2 with ⟨k1, p1, q1, q2, _⟩ | ⟨_, q2, q3⟩
    · exact ((hs ⟨0, 0⟩).own b ⟨k1, p1, q1, q2⟩).imp own_mask id
    · exact .inl ⟨k, o2, q2, q3⟩
  · rcases (hs ⟨0, 0⟩).new b cs hb with h1 | h1 | h1
    · exact .inl h1
    · exact .inr (.inl (own_mask h1))
    · exact .inr (.inr h1)
  · have hne : k ≠ p := by rintro rfl; rw [hp] at ho; cases ho
    have hkl := (List.getElem?_eq_some_iff.1 ho).1
    cases o2 with
    | cells cs =>
      refine ⟨cs, by rw [hget, if_neg hne]; exact ho, rfl, ?_⟩
      rw [hob k 0 hkl hne]
      obtain ⟨oi, h1, _⟩ := hg.obj k _ ho
      have h1 : g.ob k 0 = some oi := h1
      rw [h1]
      exact hl.le.ob _ _ _ h1
    | arr ver e l => exact ⟨ver, l, by rw [hget, if_neg hne]; exact ho⟩
  · have hne : k ≠ p := by rintro rfl; rw [hp] at ho; cases ho
    have hkl := (List.getElem?_eq_some_iff.1 ho).1
    refine ⟨ver, l, by rw [hget, if_neg hne]; exact ho, fun e0 => ⟨e0, ?_⟩⟩
    subst e0
    rw [hob k 0 hkl hne]
    obtain ⟨oi, h1, _⟩ := hg.obj k _ ho
    have h1 : g.ob k 0 = some oi := h1
    rw [h1]
    exact hl.le.ob _ _ _ h1
  · rw [hob k u (List.getElem?_eq_some_iff.1 hk).1 hne]
    exact hl.hid k u (by rw [maskL_get, hk]; simp)
end
end Go.Proofs.Ythjikjhddddplaa
