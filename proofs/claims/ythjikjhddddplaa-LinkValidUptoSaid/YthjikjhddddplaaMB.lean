/-
  The machine over typed values, 23: from what a function comes to, to the row of a law.
-/
import Derived.Test.YthjikjhddddplaaMZ
import Derived.ReadAgain
import Derived.RowKit3
import Derived.RowKit
namespace Go.Proofs.Ythjikjhddddplaa
set_option linter.unusedVariables false
set_option linter.unusedSimpArgs false
open Go.RowKit Go.ChangeShapes

def parL (D : TD) : List TypeId → Option (List Lf)
  | [] => some []
  | t :: r => match flatL D 8 t, parL D r with
    | some L, some M => some (L ++ M)
    | _, _ => none
def shOf (D : TD) (t : TypeId) : Sh := match tyOf D t with
  | some ti => match ti.agg with
    | true => .ag (List.replicate ti.size .leaf)
    | false => .leaf
  | none => .any
def shTs (D : TD) : List TypeId → List Sh
  | [] => []
  | t :: r => shOf D t :: shTs D r
theorem bld_leaves : ∀ (us rest : List T), bldL (List.replicate us.length .leaf) (us ++ rest) = (us, rest)
  | [], rest => by simp [bldL]
  | u :: us, rest => by simp [List.replicate_succ, bldL, bld, bld_leaves us rest]
section
variable {P : Program} {D : TD} {w : World} {H : Type} {en : TypeId × Value → H}
theorem flat_one (hD : TDok P D) {t : TypeId} {L : List Lf} {m base : Nat} {v : Value} {d : DataW H} {ps : List MemPlace} {g : prodL L} (hf : flatL D m t = some L) (hok : Value.okWide P w .any base t v) (hr : RdL w (envT L g) v.cells.toList) :
    ∀ rest, (bld (shOf D t) (envT L g ++ rest)).2 = rest ∧ R (g0 w) (bld (shOf D t) (envT L g ++ rest)).1 v := by
  intro rest
  cases m with
  | zero => simp [flatL] at hf
  | succ m =>
  simp only [flatL] at hf
  split at hf
  case h_2 => cases hf
  rename_i ti hti
  obtain ⟨dd, hu, ha, hs⟩ := (hD _ _ hti).under
  unfold shOf
  rw [hti]
  unfold Value.okWide at hok
  rw [hu] at hok
  have one : ∀ {a : Lf}, L = [a] → v.cells = #[v] → aggDesc dd = false → (bld (match ti.agg with | true => Sh.ag (List.replicate ti.size Sh.leaf) | false => Sh.leaf) (envT L g ++ rest)).2 = rest ∧ R (g0 w) (bld (match ti.agg with | true => Sh.ag (List.replicate ti.size Sh.leaf) | false => Sh.leaf) (envT L g ++ rest)).1 v := by
    intro a hL hv hag
    subst hL
    rw [← ha, hag]
    rw [hv] at hr
    exact ⟨rfl, hr.1.R.1⟩
  split at hf
  case h_1 k hk =>
    rw [hk] at hs; subst hs
    injection hf with hf
    refine one hf.symm ?_ rfl
    cases v <;> first | rfl | (simp [Cell.okWide, Cell.ok, hu] at hok)
  case h_2 hk =>
    rw [hk] at hs; subst hs
    injection hf with hf
    refine one hf.symm ?_ rfl
    cases v <;> first | rfl | (simp [Cell.okWide, Cell.ok, hu] at hok)
  case h_3 hk =>
    rw [hk] at hs; subst hs
    injection hf with hf
    refine one hf.symm ?_ rfl
    cases v <;> first | rfl | (simp [Cell.okWide, Cell.ok, hu] at hok)
  case h_4 e hk =>
    rw [hk] at hs
    obtain ⟨rfl, _⟩ := hs
    split at hf
    case h_2 => cases hf
    split at hf
    case h_2 => cases hf
    injection hf with hf
    refine one hf.symm ?_ rfl
    cases v <;> first | rfl | (simp [Cell.okWide, Cell.ok, hu] at hok)
  case h_5 fs hk =>
    rw [hk] at hs
    obtain ⟨fields, rfl, rfl, _⟩ := hs
    split at hf
    case h_2 => cases hf
    split at hf
    case h_2 => cases hf
    rename_i hd
    have hd := of_decide_eq_true hd
    injection hf with hf
    subst hf
    obtain ⟨cs, rfl, _, _⟩ := hok
    dsimp only
    rw [← ha]
    have hlen := envT_len _ g
    have hb := bld_leaves (envT _ g) rest
    rw [hlen, hd] at hb
    simp only [aggDesc, bld, hb, true_and]
    have hr : RdL w (envT _ g) cs.toList := hr
    refine .ag _ _ (by simpa using hr.len) (fun i c x hc hx => (hr.get i c x hc (by simpa using hx)).R.1) fun i x hx => ?_
    have hi : i < (envT _ g).length := by rw [hr.len]; simpa using (Array.getElem?_eq_some_iff.1 hx).1
    exact (hr.get i _ x (List.getElem?_eq_getElem hi) (by simpa using hx)).R.2
  case h_6 => cases hf
theorem flat_args (hD : TDok P D) (hK : KindsOk D) {base : Nat} : ∀ (ts : List TypeId) (L : List Lf) (args : List Value) (ds : List (DataW H)) (ps : List MemPlace), parL D ts = some L → DataW.TrodAll en P w 0 (fun _ => true) true ts args ds ps →
    (∀ (j : Nat) t v, ts[j]? = some t → args[j]? = some v → Value.okWide P w .any base t v) →
    ∃ g : prodL L, (∀ rest, (bldL (shTs D ts) (envT L g ++ rest)).1.length = args.length ∧ ∀ (i : Nat) (u : T) (x : Value), (bldL (shTs D ts) (envT L g ++ rest)).1[i]? = some u → args[i]? = some x → R (g0 w) u x) ∧ wfL L g ∧ bkL L g ≤ Rows.uptoBulkAll ds
  | [], L, args, ds, ps, hf, ht, _ => by
    obtain ⟨rfl, rfl, rfl⟩ := trodAll_nil ht
    simp [parL] at hf
    subst hf
    exact ⟨(), fun rest => ⟨by simp [shTs, bldL], by simp⟩, trivial, Nat.zero_le _⟩
  | t :: ts, L, args, ds, ps, hf, ht, hok => by
    obtain ⟨v, vs, d, ds', p, q, rfl, rfl, rfl, h1, h2⟩ := trodAll_cons ht
    simp only [parL] at hf
    split at hf
    case h_2 => cases hf
    rename_i A B hA hB
    injection hf with hf
    subst hf
    obtain ⟨fuel, h1⟩ := h1
    obtain ⟨g1, a1, a2, a3⟩ := trod_flat hD hK fuel 8 t A _ _ hA h1
    obtain ⟨g2, b1, b2, b3⟩ := flat_args hD hK ts B vs ds' q hB h2 fun j t v h h' => hok (j + 1) t v (by simpa using h) (by simpa using h')
    have hone := flat_one (ps := p) (d := d) hD hA (hok 0 t v rfl rfl) a1
    refine ⟨appG A B g1 g2, fun rest => ?_, wfL_app _ _ _ _ a2 b2, ?_⟩
    · rw [envT_app, List.append_assoc]
      simp only [shTs, bldL]
      obtain ⟨c1, c2⟩ := hone (envT B g2 ++ rest)
      rw [c1]
      obtain ⟨e1, e2⟩ := b1 rest
      refine ⟨by simp [e1], fun i u x hu hx => ?_⟩
      cases i with
      | zero => simp at hu hx; subst hu; subst hx; exact c2
      | succ i => simp at hu hx; exact e2 i u x hu hx
    · rw [bkL_app]
      have a3 : bkL A g1 ≤ Rows.uptoBulk d := a3
      simp only [Rows.uptoBulkAll]
      omega

theorem trodAll_carry {w' : World} {sp : Nat → Bool} {hd : Bool} : ∀ {ts : List TypeId} {vs : List Value} {ds : List (DataW H)} {ps : List MemPlace}, DataW.TrodAll en P w 0 sp hd ts vs ds ps → (∀ p ∈ ps, w.sameAt w' p) → DataW.TrodAll en P w' 0 sp hd ts vs ds ps
  | [], _, _, _, h, _ => by
    obtain ⟨rfl, rfl, rfl⟩ := trodAll_nil h
    rfl
  | t :: ts, _, _, _, h, hs => by
    obtain ⟨v, vs, d, ds', p, q, rfl, rfl, rfl, ⟨n, h1⟩, h2⟩ := trodAll_cons h
    exact ⟨p, q, ⟨n, DataW.trod_carry n _ _ _ h1 fun x hx => hs x (List.mem_append_left _ hx)⟩, trodAll_carry h2 fun x hx => hs x (List.mem_append_right _ hx), rfl⟩
/-- What a law's call does: of what was there nothing turns. -/
theorem step_kept {g' : G} {st' : St} {w' : World} {b0 : B0} (h : Step b0 (g0 w) [] w g' st' w') : (∀ b, b < w.heap.size → w'.heap[b]? = w.heap[b]?) := fun b hb => h.block b hb fun ⟨k, o, ho, _⟩ => by simp at ho
theorem kept_of {w' : World} (h1 : w'.os = w.os) (h2 : w'.output = w.output) (h : ∀ b, b < w.heap.size → w'.heap[b]? = w.heap[b]?) (may : MemPlace → Prop) : w.keptBut w' may := by
  refine ⟨h1, h2, fun i hi => ?_⟩
  rw [h i hi]
  split
  · rename_i e1 e2
    rw [e1] at e2
    simp only [Option.some.injEq, Obj.cells.injEq] at e2
    obtain ⟨rfl, rfl, rfl⟩ := e2
    exact ⟨rfl, rfl, rfl, fun _ _ => rfl⟩
  · rename_i e1 e2
    rw [e1] at e2
    simp only [Option.some.injEq, Obj.map.injEq] at e2
    exact .inr ⟨e2.1.symm, e2.2.symm⟩
  · rfl
theorem law_contract (hD : TDok P D) (hK : KindsOk D) (kids : Kids P (· < P.types.size)) (full : ∀ t e, t < P.types.size → P.underlying t = some (.slice e) → 0 < P.cellsOf e) {f : FuncId} {fn : Func} {s : ChangeSpec} {tb : TypeId}
    (hvars : s.vars = []) (hfn : ∀ ds : List (DataW H), ds.length = fn.params.size → s.fn H ds = { results := [.lit (.bool true)], args := ds }) (hres : fn.resultTypes = #[tb]) (htb : P.underlying tb = some .bool) (hts : ∀ t ∈ fn.params.toList, t < P.types.size)
    {L : List Lf} {S : List Sh} (hL : parL D fn.params.toList = some L) (hS : shTs D fn.params.toList = S)
    {base : Nat} {args : Array Value} {ds gs : List (DataW H)} {before : List MemPlace} (hF : ∀ g : prodL L, wfL L g → bkL L g ≤ Rows.uptoBulkAll (ds ++ gs) → FCalls P f (argsT S L g) [] (fun r _ => r = .bool true) fun _ _ => False)
    (hval : ∀ (j : Nat) t v, fn.params[j]? = some t → args[j]? = some v → Value.okWide P w .any base t v) (hW : DataW.Whole en P fn.params.toList s.vars false w args.toList ds gs before) :
    Calls P f args w fun e w' => ∃ v, e = .returned v ∧ s.post en P fn false true false false w args v w' := by
  have hW' := hW
  obtain ⟨p, q, hA, hV, hpq, hfz, hnd⟩ := hW
  rw [hvars] at hV
  obtain ⟨rfl, rfl⟩ := trodVars_none hV
  rw [List.append_nil] at hpq
  subst hpq
  simp only [List.append_nil] at hF
  obtain ⟨g, r1, r2, r3⟩ := flat_args (base := base) hD hK _ _ _ _ _ hL hA fun j t v h h' => hval j t v (by simpa using h) (by simpa using h')
  have hc := (hF g r2 r3).2 (g0 w) w args (good0 w)
  have hargs : RL (g0 w) (argsT S L g) args := by
    obtain ⟨a1, a2⟩ := r1 []
    rw [List.append_nil, hS] at a1 a2
    exact ⟨by simpa [argsT] using a1, fun i u x hu hx => a2 i u x hu (by simpa using hx)⟩
  have hlen : ds.length = fn.params.size := by
    have : ∀ {ts : List TypeId} {vs : List Value} {ds : List (DataW H)} {ps : List MemPlace}, DataW.TrodAll en P w 0 (fun _ => true) true ts vs ds ps → ds.length = ts.length := by
      intro ts
      induction ts with
      | nil => intro vs ds ps h; obtain ⟨_, rfl, _⟩ := trodAll_nil h; rfl
      | cons t ts ih =>
        intro vs ds ps h
        obtain ⟨v, vs, d, ds', p, q, rfl, rfl, rfl, _, h2⟩ := trodAll_cons h
        simp [ih h2]
    simpa using this hA
  refine (hc hargs).mono fun e w' ⟨g', st', _, h2, h3⟩ => ?_
  cases e with
  | returned x =>
    obtain ⟨r, rfl, hx⟩ := h3
    cases hx
    have hsame := step_kept h2
    have hsat : ∀ p ∈ before, w.sameAt w' p := fun x hx => by
      have hlt := hW'.lt x hx
      cases x with
      | cell b off => simp only [World.sameAt, World.cell?]; rw [hsame b hlt]
      | map b => exact hsame b hlt
    refine ⟨_, rfl, ds, [], before, [], before, [], hW', ?_, ?_, ?_, kept_of h2.os h2.output hsame _ |> World.keptBut_mono (fun x hx => hx), fun h => by cases h⟩
    · rw [List.append_nil, hfn ds hlen, hres]
      exact trodAll_mk1 (shut_bool htb _)
    · rw [List.append_nil, hfn ds hlen]
      have := DataW.TrodAll.respare (spare' := fun b => decide (b < w.heap.size)) kids (fun t e ht => full t e ht) hts hA fun x hx => by simpa using hW'.lt x hx
      exact trodAll_carry this hsat
    · rw [hvars, List.append_nil, hfn ds hlen]; rfl
  | panicked ch => obtain ⟨_, _, _, h, _⟩ := h3; exact h.elim
  | outgrown => exact h3.elim
end
end Go.Proofs.Ythjikjhddddplaa
