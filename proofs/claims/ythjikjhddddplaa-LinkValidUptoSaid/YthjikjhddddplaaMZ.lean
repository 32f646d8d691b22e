/-
  The machine over typed values, 22: arguments that are read as a row reads them are values of the machine.
-/
import Derived.Test.YthjikjhddddplaaMV
import Derived.DataReads
import Derived.JoinedCond
import Derived.OpenShut
namespace Go.Proofs.Ythjikjhddddplaa
set_option linter.unusedVariables false
set_option linter.unusedSimpArgs false
open Go.RowKit Go.ChangeShapes

mutual
inductive Rd (w : World) : T → Value → Prop where
  | int (k : IntKind) (n : Int) : Rd w (.int k n) (.int k n)
  | bool (b : Bool) : Rd w (.bool b) (.bool b)
  | str (s : ByteArray) : Rd w (.str s) (.string s)
  | sl0 (e : El) (A : Option Addr) (c : Nat) : c ≤ maxLen → Rd w (.sl false e []) (.slice A 0 c)
  | sl (e : El) (l : List (ty e)) (b off : Nat) (cs : List T) (c : Nat) : l.length ≤ c → c ≤ maxLen → RdB w b cs → (cs.drop off).take (l.length * sz e) = encs e l → Rd w (.sl false e l) (.slice (some ⟨b, off, none⟩) l.length c)
inductive RdB (w : World) : Nat → List T → Prop where
  | mk (b : Nat) (cs : List T) (blk : Array Value) (E : TypeId) (fr : Nat × Nat) : w.heap[b]? = some (.cells blk E fr) → cs.length ≤ blk.size → (∀ (j : Nat) (u : T) (x : Value), cs[j]? = some u → blk[j]? = some x → u.pure1 = true → Rd w u x) → RdB w b cs
end
/-- The ghost of a call's first world: whatever can be read is read only. -/
def g0 (w : World) : G := ⟨RdB w, fun _ _ => none⟩
theorem Rd.R {w : World} {u : T} {x : Value} (h : Rd w u x) : R (g0 w) u x ∧ x.oneCell' = true := by
  cases h with
  | int k n => exact ⟨.int k n, rfl⟩
  | bool b => exact ⟨.bool b, rfl⟩
  | str s => exact ⟨.str s, rfl⟩
  | sl0 e A c h => exact ⟨.sl false e [] A c (Nat.zero_le _) h (by simp) (by simp), rfl⟩
  | sl e l b off cs c h1 h2 h3 h4 => exact ⟨.sl false e l _ c h1 h2 (by simp) fun _ => ⟨b, off, cs, rfl, h3, h4⟩, rfl⟩
theorem good0 (w : World) : Good (g0 w) [] w := by
  refine ⟨fun b cs h => ?_, fun k o h => by simp at h, fun k k' o o' b h => by simp at h, fun k v oi h => by simp [g0] at h⟩
  cases h with
  | mk _ _ blk E fr h1 h2 h3 =>
    refine ⟨blk, E, fr, h1, h2, fun j u hj hp => ?_⟩
    have hlt : j < blk.size := Nat.lt_of_lt_of_le (List.getElem?_eq_some_iff.1 hj).1 h2
    have h := (h3 j u _ hj (Array.getElem?_eq_getElem hlt) hp).R
    exact ⟨_, Array.getElem?_eq_getElem hlt, h.2, h.1⟩
def RdL (w : World) : List T → List Value → Prop
  | [], [] => True
  | u :: us, x :: xs => Rd w u x ∧ RdL w us xs
  | _, _ => False
theorem RdL.len {w : World} : ∀ {us : List T} {xs : List Value}, RdL w us xs → us.length = xs.length
  | [], [], _ => rfl
  | _ :: us, _ :: xs, h => by simp [RdL.len (us := us) (xs := xs) h.2]
  | [], _ :: _, h => h.elim
  | _ :: _, [], h => h.elim
theorem RdL.append {w : World} : ∀ {us us' : List T} {xs xs' : List Value}, RdL w us xs → RdL w us' xs' → RdL w (us ++ us') (xs ++ xs')
  | [], _, [], _, _, h => h
  | _ :: us, _, _ :: xs, _, h, k => ⟨h.1, RdL.append (us := us) (xs := xs) h.2 k⟩
  | [], _, _ :: _, _, h, _ => h.elim
  | _ :: _, _, [], _, h, _ => h.elim
theorem RdL.get {w : World} : ∀ {us : List T} {xs : List Value}, RdL w us xs → ∀ (i : Nat) (u : T) (x : Value), us[i]? = some u → xs[i]? = some x → Rd w u x
  | [], [], _, i, u, x, h, _ => by simp at h
  | v :: us, y :: xs, h, 0, u, x, hu, hx => by simp at hu hx; subst hu; subst hx; exact h.1
  | v :: us, y :: xs, h, i + 1, u, x, hu, hx => by simp at hu hx; exact RdL.get h.2 i u x hu hx
  | [], _ :: _, h, _, _, _, _, _ => h.elim
  | _ :: _, [], h, _, _, _, _, _ => h.elim

/-! ### Leaves, one after the other -/
def appG : (L M : List Lf) → prodL L → prodL M → prodL (L ++ M)
  | [], _, _, g => g
  | _ :: r, M, g, k => (g.1, appG r M g.2 k)
theorem envT_app : ∀ (L M : List Lf) (g : prodL L) (k : prodL M), envT (L ++ M) (appG L M g k) = envT L g ++ envT M k
  | [], _, _, _ => rfl
  | a :: r, M, g, k => by simp only [List.cons_append, envT, appG, envT_app r M g.2 k]
theorem bkL_app : ∀ (L M : List Lf) (g : prodL L) (k : prodL M), bkL (L ++ M) (appG L M g k) = bkL L g + bkL M k
  | [], _, _, _ => by simp [bkL, appG]
  | a :: r, M, g, k => by
    have := bkL_app r M g.2 k
    cases a <;> simp only [List.cons_append, bkL, appG] <;> omega
theorem wfL_app : ∀ (L M : List Lf) (g : prodL L) (k : prodL M), wfL L g → wfL M k → wfL (L ++ M) (appG L M g k)
  | [], _, _, _, _, h => h
  | a :: r, M, g, k, h, h' => by
    cases a with
    | int => exact ⟨h.1, wfL_app r M g.2 k h.2 h'⟩
    | sl => exact ⟨h.1, wfL_app r M g.2 k h.2 h'⟩
    | bool => exact wfL_app r M g.2 k h h'
    | str => exact wfL_app r M g.2 k h h'
    | cst => exact wfL_app r M g.2 k h h'
theorem envT_len : ∀ (L : List Lf) (g : prodL L), (envT L g).length = L.length
  | [], _ => rfl
  | _ :: r, g => by simp [envT, envT_len r g.2]

def flatFs (F : TypeId → Option (List Lf)) : Nat → List (Nat × TypeId) → Option (List Lf)
  | _, [] => some []
  | o, (off, t) :: r => match decide (off = o), F t with
    | true, some L => match flatFs F (o + L.length) r with
      | some M => some (L ++ M)
      | none => none
    | _, _ => none
/-- The leaves of a type: a struct's cells, one after the other. -/
def flatL (D : TD) : Nat → TypeId → Option (List Lf)
  | 0, _ => none
  | n + 1, t => match tyOf D t with
    | some ti => match ti.srt with
      | .int k => some [.int k]
      | .bool => some [.bool]
      | .string => some [.str]
      | .slice e => match tyOf D e with
        | some te => match te.el with
          | some k => some [.sl k]
          | none => none
        | none => none
      | .struct fs => match flatFs (flatL D n) 0 fs with
        | some L => match decide (L.length = ti.size) with
          | true => some L
          | false => none
        | none => none
      | _ => none
    | none => none
abbrev KindsOk (D : TD) : Prop := ∀ t te e, tyOf D t = some te → te.el = some e → ∃ m, flatL D m t = some (lvs e)

section
variable {P : Program} {D : TD} {w : World} {H : Type} {en : TypeId × Value → H}
theorem mapM_get {α β : Type} {f : α → Option β} {l : List α} {r : List β} (h : l.mapM f = some r) : r.length = l.length ∧ ∀ (i : Nat) (x : α) (y : β), l[i]? = some x → r[i]? = some y → f x = some y :=
  ⟨mapM_some_length h, fun i x y hx hy => by rw [mapM_some_get h i x hx, hy]⟩
theorem cellsOf_ti {t : TypeId} {ti : TI} (h : TIok P t ti) : P.cellsOf t = ti.size := by
  obtain ⟨i, h1, h2, _⟩ := h.info
  simp [Program.cellsOf, h1, h2]
theorem cells_at {b : Nat} {a : Addr} {n : Nat} {l : List Value} (h : w.cells? b a n = some l) : l.length = n ∧ ∀ (i : Nat) (x : Value), l[i]? = some x → w.cell? (a.add i) = some x := by
  unfold World.cells? at h
  split at h
  · obtain ⟨h1, h2⟩ := mapM_get h
    refine ⟨by simpa using h1, fun i x hx => ?_⟩
    have hi : i < n := by have := (List.getElem?_eq_some_iff.1 hx).1; simpa [h1] using this
    exact h2 i i x (by simp [hi]) hx
  · cases h
theorem encs_split {e : El} {l : List (ty e)} {J : Nat} {u : T} (h : (encs e l)[J]? = some u) : ∃ i j x, J = i * sz e + j ∧ j < sz e ∧ l[i]? = some x ∧ (enc e x)[j]? = some u := by
  have hp := sz_pos e
  have hlt : J < l.length * sz e := by have := (List.getElem?_eq_some_iff.1 h).1; rwa [encs_len] at this
  have hi : J / sz e < l.length := by rw [Nat.div_lt_iff_lt_mul hp]; exact hlt
  have hj := Nat.mod_lt J hp
  have hJ : J = J / sz e * sz e + J % sz e := by rw [Nat.mul_comm]; exact (Nat.div_add_mod J (sz e)).symm
  refine ⟨J / sz e, J % sz e, l[J / sz e], hJ, hj, List.getElem?_eq_getElem hi, ?_⟩
  rw [← encs_get (List.getElem?_eq_getElem hi) hj, ← hJ]
  exact h
theorem take_len {α : Type} {l : List α} {n m : Nat} (h : (l.take n).length = m) : l.take n = l.take m := by
  rw [List.length_take] at h
  by_cases e : n ≤ l.length
  · rw [Nat.min_eq_left e] at h; rw [h]
  · rw [List.take_of_length_le (by omega), List.take_of_length_le (by omega)]
theorem flat_fields {fuel : Nat} {F : TypeId → Option (List Lf)} {cs : List Value}
    (ih : ∀ t L cs x, F t = some L → DataW.trod en P w 0 (fun _ => true) true fuel t cs = some x → ∃ g : prodL L, RdL w (envT L g) cs ∧ wfL L g ∧ bkL L g ≤ Rows.uptoBulk x.1) :
    ∀ (fs : List Field) (o : Nat) (L : List Lf) (xs : List (DataW H × List MemPlace)), flatFs F o (fs.map fun f => (f.offset, f.type)) = some L → fs.mapM (fun f => DataW.trod en P w 0 (fun _ => true) true fuel f.type ((cs.drop f.offset).take (P.cellsOf f.type))) = some xs →
      ∃ g : prodL L, RdL w (envT L g) ((cs.drop o).take L.length) ∧ wfL L g ∧ bkL L g ≤ Rows.uptoBulkAll (xs.map (·.1))
  | [], o, L, xs, h, k => by
    simp [flatFs] at h
    subst h
    exact ⟨(), by simp [envT, RdL], trivial, Nat.zero_le _⟩
  | f :: fs, o, L, xs, h, k => by
    simp only [List.map_cons, flatFs] at h
    split at h
    case h_2 => cases h
    rename_i A hd hA
    have hd := of_decide_eq_true hd
    split at h
    case h_2 => cases h
    rename_i M hM
    simp only [Option.some.injEq] at h
    subst h
    rw [List.mapM_cons] at k
    cases hx : DataW.trod en P w 0 (fun _ => true) true fuel f.type ((cs.drop f.offset).take (P.cellsOf f.type)) with
    | none => rw [hx] at k; cases k
    | some x =>
      rw [hx] at k
      cases hr : fs.mapM (fun f => DataW.trod en P w 0 (fun _ => true) true fuel f.type ((cs.drop f.offset).take (P.cellsOf f.type))) with
      | none => rw [hr] at k; cases k
      | some r =>
        rw [hr] at k
        have k : x :: r = xs := by simpa using k
        subst k
        obtain ⟨g1, a1, a2, a3⟩ := ih _ _ _ _ hA hx
        obtain ⟨g2, b1, b2, b3⟩ := flat_fields ih fs _ _ _ hM hr
        refine ⟨appG A M g1 g2, ?_, wfL_app _ _ _ _ a2 b2, ?_⟩
        · rw [envT_app, List.length_append, List.take_add, List.drop_drop]
          rw [hd, take_len (by rw [← a1.len, envT_len])] at a1
          exact a1.append b1
        · rw [bkL_app]
          simp only [List.map_cons, Rows.uptoBulkAll]
          omega
theorem sum_bulk {e : El} : ∀ (l : List (ty e)) (ds : List (DataW H)), l.length = ds.length → (∀ (i : Nat) (x : ty e) (d : DataW H), l[i]? = some x → ds[i]? = some d → bk e x ≤ Rows.uptoBulk d) → (l.map (bk e)).sum ≤ Rows.uptoBulkAll ds
  | [], _, _, _ => by simp
  | x :: l, [], h, _ => by simp at h
  | x :: l, d :: ds, h, k => by
    have h1 := k 0 x d rfl rfl
    have h2 := sum_bulk l ds (by simpa using h) fun i y d hy hd => k (i + 1) y d (by simpa using hy) (by simpa using hd)
    simp only [List.map_cons, List.sum_cons, Rows.uptoBulkAll]
    omega
theorem bulk_app : ∀ (l r : List (DataW H)), Rows.uptoBulkAll (l ++ r) = Rows.uptoBulkAll l + Rows.uptoBulkAll r
  | [], r => by simp [Rows.uptoBulkAll]
  | x :: l, r => by simp only [List.cons_append, Rows.uptoBulkAll, bulk_app l r]; omega
theorem flat_elems {fuel : Nat} {e : TypeId} {te : TI} {k : El} (hD : TDok P D) (he : tyOf D e = some te) (hk : te.el = some k) (hflat : ∃ m, flatL D m e = some (lvs k))
    (ih : ∀ m t L cs x, flatL D m t = some L → DataW.trod en P w 0 (fun _ => true) true fuel t cs = some x → ∃ g : prodL L, RdL w (envT L g) cs ∧ wfL L g ∧ bkL L g ≤ Rows.uptoBulk x.1)
    {a : Addr} {len cap : Nat} {elems : List (DataW H × List MemPlace)} (h1 : len ≤ cap) (h2 : cap ≤ maxLen)
    (h : (List.range len).mapM (fun i => (w.cells? 0 (a.add (i * P.cellsOf e)) (P.cellsOf e)).bind (DataW.trod en P w 0 (fun _ => true) true fuel e)) = some elems) :
    ∃ l : List (ty k), Rd w (.sl false k l) (.slice (some a) len cap) ∧ (∀ x ∈ l, wfE k x) ∧ (l.map (bk k)).sum ≤ Rows.uptoBulkAll (elems.map (·.1)) := by
  obtain ⟨m, hflat⟩ := hflat
  have hsz : P.cellsOf e = sz k := by rw [cellsOf_ti (hD _ _ he), ((hD _ _ he).el _ hk).1]
  rw [hsz] at h
  obtain ⟨e1, e2⟩ := mapM_get h
  simp only [List.length_range] at e1
  obtain ⟨l, l1, l2⟩ := exists_list (p := fun j (x : ty k) => wfE k x ∧ (∀ d, elems[j]? = some d → bk k x ≤ Rows.uptoBulk d.1) ∧ ∀ q u, (enc k x)[q]? = some u → ∃ v, w.cell? ((a.add (j * sz k)).add q) = some v ∧ Rd w u v) len (fun j hj => by
    have hje : j < elems.length := by omega
    have := e2 j j elems[j] (by simp [hj]) (List.getElem?_eq_getElem hje)
    obtain ⟨cs, c1, c2⟩ := Option.bind_eq_some_iff.1 this
    obtain ⟨g, g1, g2, g3⟩ := ih m e _ cs _ hflat c2
    obtain ⟨d1, d2⟩ := cells_at c1
    refine ⟨mkE k g, wf_mk k g g2, fun d hd => ?_, fun q u hq => ?_⟩
    · rw [List.getElem?_eq_getElem hje] at hd
      injection hd with hd
      subst hd
      rw [bk_mk]; exact g3
    · rw [enc_mk] at hq
      have hq' : q < cs.length := by rw [← g1.len]; exact (List.getElem?_eq_some_iff.1 hq).1
      exact ⟨cs[q], d2 q _ (List.getElem?_eq_getElem hq'), g1.get q u _ hq (List.getElem?_eq_getElem hq')⟩)
  refine ⟨l, ?_, fun x hx => ?_, sum_bulk _ _ (by simp [l1, e1]) fun i x d hx hd => ?_⟩
  · by_cases h0 : len = 0
    · subst h0
      have : l = [] := List.eq_nil_of_length_eq_zero l1
      subst this
      exact .sl0 _ _ _ h2
    have hp := sz_pos k
    -- the first element is there: the address has no spot, its block is of cells
    have hl0 : 0 < l.length := by omega
    have henc0 : 0 < (enc k l[0]).length := by rw [enc_len]; exact hp
    obtain ⟨v0, hv0, _⟩ := (l2 0 l[0] (List.getElem?_eq_getElem hl0)).2.2 0 _ (List.getElem?_eq_getElem henc0)
    obtain ⟨b, off, spot⟩ := a
    have hadd0 : ((Addr.add ⟨b, off, spot⟩ (0 * sz k)).add 0) = ⟨b, off, spot⟩ := by simp [Addr.add]
    rw [hadd0] at hv0
    obtain ⟨blk, E, fr, hb, hs⟩ : ∃ blk E fr, w.heap[b]? = some (.cells blk E fr) ∧ spot = none := by
      unfold World.cell? at hv0
      split at hv0
      · rename_i c E fr hb
        split at hv0
        · cases hv0
        · rename_i hs
          exact ⟨c, E, fr, hb, by simpa using hs⟩
      · cases hv0
    subst hs
    have hadd : ∀ i q, ((Addr.add ⟨b, off, none⟩ (i * sz k)).add q) = ⟨b, off + i * sz k + q, none⟩ := fun i q => by
      unfold Addr.add; split <;> split <;> simp_all
    have hcell : ∀ i x q u, l[i]? = some x → (enc k x)[q]? = some u → ∃ v, blk[off + i * sz k + q]? = some v ∧ Rd w u v := fun i x q u hi hq => by
      obtain ⟨v, v1, v2⟩ := (l2 i x hi).2.2 q u hq
      rw [hadd] at v1
      simp [World.cell?, hb] at v1
      exact ⟨v, v1, v2⟩
    have hlen : off + l.length * sz k ≤ blk.size := by
      have hlast : l.length - 1 < l.length := by omega
      have hq : sz k - 1 < (enc k l[l.length - 1]).length := by rw [enc_len]; omega
      obtain ⟨v, v1, _⟩ := hcell _ _ _ _ (List.getElem?_eq_getElem hlast) (List.getElem?_eq_getElem hq)
      have := (Array.getElem?_eq_some_iff.1 v1).1
      have e : l.length * sz k = (l.length - 1) * sz k + sz k := by
        rw [← Nat.succ_mul]; congr 1; omega
      omega
    have hR : Rd w (.sl false k l) (.slice (some ⟨b, off, none⟩) l.length cap) := by
      refine .sl k l b off (List.replicate off .undef ++ encs k l) cap (by omega) h2 (.mk _ _ blk E fr hb (by simp [encs_len]; omega) fun j u x hj hx hpu => ?_) ?_
      · by_cases hjo : j < off
        · rw [List.getElem?_append_left (by simpa using hjo)] at hj
          simp [List.getElem?_replicate, hjo] at hj
          subst hj
          simp [T.pure1] at hpu
        · rw [List.getElem?_append_right (by simpa using Nat.le_of_not_lt hjo)] at hj
          simp only [List.length_replicate] at hj
          obtain ⟨i, q, y, hJ, _, hy, hu⟩ := encs_split hj
          obtain ⟨v, v1, v2⟩ := hcell i y q u hy hu
          have : off + i * sz k + q = j := by omega
          rw [this, hx] at v1
          injection v1 with v1
          subst v1
          exact v2
      · rw [List.drop_left' (by simp), ← encs_len]
        exact List.take_length
    rw [l1] at hR
    exact hR
  · obtain ⟨i, hi⟩ := List.mem_iff_getElem?.1 hx
    exact (l2 i x hi).1
  · simp only [List.getElem?_map, Option.map_eq_some_iff] at hd
    obtain ⟨d', hd', rfl⟩ := hd
    exact (l2 i x hx).2.1 d' hd'
theorem trod_flat (hD : TDok P D) (hK : KindsOk D) : ∀ (fuel m : Nat) (t : TypeId) (L : List Lf) (cs : List Value) (x : DataW H × List MemPlace), flatL D m t = some L → DataW.trod en P w 0 (fun _ => true) true fuel t cs = some x →
    ∃ g : prodL L, RdL w (envT L g) cs ∧ wfL L g ∧ bkL L g ≤ Rows.uptoBulk x.1
  | 0, _, _, _, _, _, _, h => by simp [DataW.trod] at h
  | fuel + 1, 0, _, _, _, _, h, _ => by simp [flatL] at h
  | fuel + 1, m + 1, t, L, cs, x, hf, h => by
    simp only [flatL] at hf
    split at hf
    case h_2 => cases hf
    rename_i ti hti
    obtain ⟨d, hu, _, hs⟩ := (hD _ _ hti).under
    have hc := cellsOf_ti (hD _ _ hti)
    unfold DataW.trod at h
    rw [hu] at h
    split at hf
    case h_1 k hk =>
      rw [hk] at hs
      subst hs
      injection hf with hf
      subst hf
      split at h <;> first | (cases h; done) | (rename_i ed; cases ed; done) | (rename_i ed; cases ed)
      split at h
      · rename_i hh
        obtain ⟨rfl, hw⟩ := hh
        injection h with h
        subst h
        simp only [Lit.wf, Bool.and_eq_true, decide_eq_true_eq] at hw
        exact ⟨(_, ()), ⟨.int _ _, trivial⟩, ⟨hw, trivial⟩, by simp [bkL, Rows.uptoBulk]⟩
      · cases h
    case h_2 hk =>
      rw [hk] at hs
      subst hs
      injection hf with hf
      subst hf
      split at h <;> first | (cases h; done) | (rename_i ed; cases ed; done) | (rename_i ed; cases ed)
      injection h with h
      subst h
      exact ⟨(_, ()), ⟨.bool _, trivial⟩, trivial, by simp [bkL, Rows.uptoBulk]⟩
    case h_3 hk =>
      rw [hk] at hs
      subst hs
      injection hf with hf
      subst hf
      split at h <;> first | (cases h; done) | (rename_i ed; cases ed; done) | (rename_i ed; cases ed)
      split at h
      · injection h with h
        subst h
        exact ⟨(_, ()), ⟨.str _, trivial⟩, trivial, by simp [bkL, Rows.uptoBulk]⟩
      · cases h
    case h_4 e hk =>
      rw [hk] at hs
      obtain ⟨rfl, _⟩ := hs
      split at hf
      case h_2 => cases hf
      rename_i te hte
      split at hf
      case h_2 => cases hf
      rename_i k hel
      injection hf with hf
      subst hf
      split at h <;> first | (cases h; done) | (rename_i ed; cases ed; done) | (rename_i ed; cases ed)
      · injection h with h
        subst h
        exact ⟨([], ()), ⟨.sl0 _ _ _ (Nat.zero_le _), trivial⟩, ⟨by simp, trivial⟩, by simp [bkL, Rows.uptoBulk]⟩
      · split at h
        case isFalse => cases h
        rename_i hh
        obtain ⟨_, h1, h2⟩ := hh
        obtain ⟨elems, c1, c2⟩ := Option.bind_eq_some_iff.1 h
        obtain ⟨l, l1, l2, l3⟩ := flat_elems hD hte hel (hK _ _ _ hte hel) (fun m t L cs x => trod_flat hD hK fuel m t L cs x) h1 h2 c1
        refine ⟨(l, ()), ⟨l1, trivial⟩, ⟨l2, trivial⟩, ?_⟩
        obtain ⟨rest, _, rfl⟩ := Option.map_eq_some_iff.1 c2
        simp only [bkL, Rows.uptoBulk]
        omega
    case h_5 fs hk =>
      rw [hk] at hs
      obtain ⟨fields, rfl, rfl, _⟩ := hs
      split at hf
      case h_2 => cases hf
      rename_i L' hL
      split at hf
      case h_2 => cases hf
      rename_i hd
      have hd := of_decide_eq_true hd
      injection hf with hf
      subst hf
      split at h <;> first | (cases h; done) | (simp at h; done) | (exfalso; simp_all; done) | (rename_i ed; cases ed; done) | (rename_i ed; cases ed)
      split at h
      case isFalse => cases h
      rename_i hlen
      obtain ⟨xs, c1, rfl⟩ := Option.map_eq_some_iff.1 h
      obtain ⟨g, a1, a2, a3⟩ := flat_fields (fun t L cs x => trod_flat hD hK fuel m t L cs x) fields.toList 0 _ xs hL c1
      refine ⟨g, ?_, a2, ?_⟩
      · rw [List.drop_zero, List.take_of_length_le (by omega)] at a1
        exact a1
      · simp only [Rows.uptoBulk]
        omega
    case h_6 => cases hf
end
end Go.Proofs.Ythjikjhddddplaa
