/-
  The machine over typed values, 2: runs of the model's own operations. No program in sight.
-/
import Derived.WalkKit
import Derived.Lib.Hide
import Derived.Orders
import Derived.Laws.Append
namespace Go.Proofs.Ythjikjhddddplaa
set_option linter.unusedVariables false
set_option linter.unusedSimpArgs false
open Go.RowKit

/-- What a computation yields that asks for nothing but the program. -/
def quiet {α : Type} (P : Program) : Sem α → Option α
  | .pure a => some a
  | .program k => quiet P (k P)
  | _ => none
theorem quiet_run {α : Type} {P : Program} {s : Sem α} {a : α} (h : quiet P s = some a) (w : World) : s.run P w = .ok a w := by
  induction s with
  | pure b => simp only [quiet, Option.some.injEq] at h; subst h; rfl
  | program k ih => simp only [quiet] at h; exact ih P h
  | _ => simp [quiet] at h
theorem quiet_bind {α β : Type} {P : Program} (s : Sem α) (f : α → Sem β) : quiet P (s >>= f) = (quiet P s).bind fun a => quiet P (f a) := by
  show quiet P (s.bind f) = _
  induction s with
  | pure b => rfl
  | program k ih => exact ih P
  | _ => rfl

def aggDesc : TypeDesc → Bool
  | .struct _ | .array _ _ => true
  | _ => false

section
variable {P : Program} {w : World} {a : Act} {o : Oper}
theorem cells_one {x : Value} (h : x.oneCell' = true) : x.cells = #[x] := by
  cases x <;> first | rfl | (simp [Value.oneCell'] at h)
@[simp] theorem quiet_pure {α : Type} (x : α) : quiet P (pure x) = some x := rfl
@[simp] theorem quiet_Pure {α : Type} (x : α) : quiet P (Sem.pure x) = some x := rfl
@[simp] theorem quiet_under (T : TypeId) : quiet P (underlying T) = P.underlying T := by
  show quiet P (Sem.program _) = _
  simp only [quiet]
  show quiet P (match P.underlying T with | some d => pure d | none => stuck "no such type") = _
  cases P.underlying T <;> rfl
@[simp] theorem quiet_info (T : TypeId) : quiet P (typeInfo T) = P.info? T := by
  show quiet P (Sem.program _) = _
  simp only [quiet]
  show quiet P (match P.info? T with | some d => pure d | none => stuck "no such type") = _
  cases P.info? T <;> rfl
@[simp] theorem quiet_size (T : TypeId) : quiet P (sizeOf T) = (P.info? T).map (·.size) := by
  unfold sizeOf
  rw [quiet_bind, quiet_info]
  cases P.info? T <;> rfl
@[simp] theorem quiet_zero (T : TypeId) : quiet P (zeroValue T) = (P.info? T).bind (·.zero) := by
  unfold zeroValue
  rw [quiet_bind, quiet_info]
  cases P.info? T with
  | none => rfl
  | some i => cases h : i.zero <;> simp [h] <;> rfl
@[simp] theorem quiet_agg (T : TypeId) : quiet P (isAgg T) = (P.underlying T).map aggDesc := by
  unfold isAgg
  rw [quiet_bind, quiet_under]
  cases P.underlying T with
  | none => rfl
  | some d => cases d <;> rfl
@[simp] theorem quiet_map {α β : Type} (f : α → β) (s : Sem α) : quiet P (Functor.map f s) = (quiet P s).map f := by
  show quiet P (s >>= _) = _
  rw [quiet_bind]
  cases quiet P s <;> rfl
theorem exists_list {β : Type} (n : Nat) {p : Nat → β → Prop} (h : ∀ j, j < n → ∃ y, p j y) : ∃ l : List β, l.length = n ∧ ∀ (j : Nat) (y : β), l[j]? = some y → p j y := by
  induction n with
  | zero => exact ⟨[], rfl, by simp⟩
  | succ n ih =>
    obtain ⟨l, h1, h2⟩ := ih fun j hj => h j (by omega)
    obtain ⟨y, hy⟩ := h n (by omega)
    refine ⟨l ++ [y], by simp [h1], fun j z hz => ?_⟩
    by_cases hj : j < l.length
    · rw [List.getElem?_append_left hj] at hz; exact h2 j z hz
    · rw [List.getElem?_append_right (by omega)] at hz
      by_cases e : j - l.length = 0
      · rw [e] at hz; simp at hz; subst hz
        have : j = n := by omega
        subst this; exact hy
      · have : j - l.length = (j - l.length - 1) + 1 := by omega
        rw [this] at hz; simp at hz
/-- A row of values is stored. -/
theorem run_storeRow (b q : Nat) : ∀ (vs : List Value) (i : Nat) (w : World) (blk : Array Value) (T : TypeId) (fr : Nat × Nat), w.heap[b]? = some (.cells blk T fr) → (∀ j, j < blk.size → ¬ (fr.1 ≤ j ∧ j < fr.2)) → q + i + vs.length ≤ blk.size → (∀ v ∈ vs, v.oneCell' = true) →
    ∃ (w' : World) (blk' : Array Value), (storeCells ⟨b, q, none⟩ vs i).run P w = .ok () w' ∧ w'.heap[b]? = some (.cells blk' T fr) ∧ blk'.size = blk.size ∧ (∀ j, blk'[j]? = if q + i ≤ j ∧ j < q + i + vs.length then vs[j - (q + i)]? else blk[j]?) ∧
      (∀ k, k ≠ b → w'.heap[k]? = w.heap[k]?) ∧ w'.heap.size = w.heap.size ∧ w'.os = w.os ∧ w'.tape = w.tape ∧ w'.output = w.output
  | [], i, w, blk, T, fr, h1, _, _, _ => ⟨w, blk, rfl, h1, rfl, fun j => by rw [if_neg (by simp)], fun _ _ => rfl, rfl, rfl, rfl, rfl⟩
  | v :: r, i, w, blk, T, fr, h1, h2, h3, h4 => by
    have hi : q + i < blk.size := by simp at h3; omega
    have hadd : (⟨b, q, none⟩ : Addr).add i = ⟨b, q + i, none⟩ := by unfold Addr.add; split <;> simp_all
    have hcell : w.cell? ⟨b, q + i, none⟩ = some blk[q + i] := by simp [World.cell?, h1, hi]
    have hfro : w.frozen? ⟨b, q + i, none⟩ = false := by
      have := h2 _ hi
      simp only [World.frozen?, h1]
      simp
      omega
    have hst : (store ((⟨b, q, none⟩ : Addr).add i) v).run P w = .ok () (w.setCell ⟨b, q + i, none⟩ v) := by
      rw [hadd, run_store P w _ v _ (h4 v (by simp)), hcell]
      simp [hfro]
    have hw1 : (w.setCell ⟨b, q + i, none⟩ v).heap[b]? = some (.cells (blk.setIfInBounds (q + i) v) T fr) := by
      simp [World.setCell, Array.getElem?_modify, h1]
    obtain ⟨w', blk', a1, a2, a3, a4, a5, a6, a7, a8, a9⟩ := run_storeRow b q r (i + 1) (w.setCell ⟨b, q + i, none⟩ v) _ T fr hw1 (by simpa using h2) (by simp at h3 ⊢; omega) (fun x hx => h4 x (by simp [hx]))
    refine ⟨w', blk', ?_, a2, by simpa using a3, fun j => ?_, fun k hk => (a5 k hk).trans (Below.heap_setCell w _ v k hk), by simpa [World.setCell] using a6, a7, a8, a9⟩
    · simp only [storeCells, Sem.run_bind, hst, Result.andThen_ok, a1]
    · rw [a4 j, Array.getElem?_setIfInBounds]
      by_cases e : j = q + i
      · subst e
        rw [if_neg (by omega), if_pos rfl, if_pos hi, if_pos (by simp)]
        simp
      · rw [if_neg (show ¬ q + i = j from fun h => e h.symm)]
        by_cases e2 : q + (i + 1) ≤ j ∧ j < q + (i + 1) + r.length
        · rw [if_pos e2, if_pos (by simp; omega)]
          have : j - (q + i) = (j - (q + (i + 1))) + 1 := by omega
          rw [this]; simp
        · rw [if_neg e2, if_neg (by simp; omega)]

theorem foldl_zip (off : Nat) : ∀ (l : List Value) (s : Nat) (xs : Array Value), off + s + l.length ≤ xs.size →
    ((l.zipIdx s).foldl (fun cs (p : Value × Nat) => cs.setIfInBounds (off + p.2) p.1) xs).size = xs.size ∧ ∀ (j : Nat), ((l.zipIdx s).foldl (fun cs (p : Value × Nat) => cs.setIfInBounds (off + p.2) p.1) xs)[j]? = if off + s ≤ j ∧ j < off + s + l.length then l[j - (off + s)]? else xs[j]?
  | [], s, xs, _ => ⟨rfl, fun j => by rw [if_neg (by simp)]; rfl⟩
  | v :: r, s, xs, h => by
    simp only [List.length_cons] at h
    obtain ⟨h1, h2⟩ := foldl_zip off r (s + 1) (xs.setIfInBounds (off + s) v) (by simp; omega)
    simp only [List.zipIdx_cons, List.foldl_cons]
    refine ⟨by simpa using h1, fun j => ?_⟩
    rw [h2 j, Array.getElem?_setIfInBounds]
    by_cases e : j = off + s
    · subst e
      rw [if_neg (by omega), if_pos rfl, if_pos (by omega), if_pos (by simp)]
      simp
    · rw [if_neg (show ¬ off + s = j from fun h => e h.symm)]
      by_cases e2 : off + (s + 1) ≤ j ∧ j < off + (s + 1) + r.length
      · rw [if_pos e2, if_pos (by simp; omega)]
        have : j - (off + s) = (j - (off + (s + 1))) + 1 := by omega
        rw [this]; simp
      · rw [if_neg e2, if_neg (by simp; omega)]
theorem foldl_arr (off : Nat) (ys xs : Array Value) (h : off + ys.size ≤ xs.size) :
    (ys.zipIdx.foldl (fun cs (p : Value × Nat) => cs.setIfInBounds (off + p.2) p.1) xs).size = xs.size ∧ ∀ (j : Nat), (ys.zipIdx.foldl (fun cs (p : Value × Nat) => cs.setIfInBounds (off + p.2) p.1) xs)[j]? = if off ≤ j ∧ j < off + ys.size then ys[j - off]? else xs[j]? := by
  have := foldl_zip off ys.toList 0 xs (by simpa using h)
  rw [← Array.foldl_toList, Array.toList_zipIdx]
  simpa using this

theorem grownCap_bounds (w : World) (need old : Nat) (e : TypeId) (h : need ≤ maxLen) : need ≤ grownCap w need old e ∧ grownCap w need old e ≤ maxLen := by
  unfold grownCap Question.cut
  simp only [maxLen] at *
  have : (w.tape w.drawn (.appendCap need old e)) % (2 ^ 63 - need) < 2 ^ 63 - need := Nat.mod_lt _ (by omega)
  omega
/-- An append that makes a new row. -/
theorem run_append_new {ty T e : TypeId} {i : TypeInfo} {z : Value} (ht : P.underlying T = some (.slice e)) (hi : P.info? e = some i) (hz : i.zero = some z) (A B : Option Addr) (sLen sCap m c : Nat) (olds news : List Value)
    (hlo : olds.length = sLen * i.size) (hA : A = none → sLen = 0 ∧ sCap = 0) (holds : ∀ b, A = some b → ∀ (j : Nat) (u : Value), olds[j]? = some u → w.cell? (b.add j) = some u)
    (hln : news.length = m * i.size) (hB : B = none → m = 0) (hnews : ∀ b, B = some b → ∀ (j : Nat) (u : Value), news[j]? = some u → w.cell? (b.add j) = some u) (hg : sCap < sLen + m) (h63 : sLen + m ≤ maxLen) (hfit : (sLen + m) * i.bytes ≤ 140737488355328) :
    (Builtin.append_ #[T, T] ty #[.slice A sLen sCap, .slice B m c]).run P w =
      .ok (.slice (some ⟨w.heap.size, 0, none⟩) (sLen + m) (grownCap w (sLen + m) sCap e)) (w.drew.alloc (.cells (olds.toArray ++ news.toArray ++ Builtin.zeroCells z.cells (grownCap w (sLen + m) sCap e - (sLen + m))) e)) := by
  have h63' : ((sLen + m : Nat) : Int) ≤ 9223372036854775807 := by simp only [maxLen] at h63; omega
  cases A with
  | some b =>
    cases B with
    | some b' => exact run_append_grow w T ty e i z ht hi hz b sLen sCap olds hlo (holds b rfl) b' m c news hln (hnews b' rfl) hg h63' (growslice_fits hg hfit)
    | none =>
      have hm := hB rfl
      subst hm
      have hnil : news = [] := List.eq_nil_of_length_eq_zero (by simpa using hln)
      subst hnil
      have hn : ¬ (sLen ≤ sCap) := by omega
      have h2 : ¬ (9223372036854775807 < (sLen : Int)) := by omega
      have h48' : ¬ (281474976710656 < Builtin.nextslicecap sLen sCap * i.bytes) := by have := growslice_fits hg hfit; simp at this; omega
      have hfo := run_firstCells_some (P := P) w.drew i.size sLen b sLen sCap olds hlo (by simpa using holds b rfl)
      simp [Builtin.append_, run_underlying ht, sizeOf, typeInfo, zeroValue, hi, hz, Builtin.lenOf, hn, h2, h48', Question.forced, hfo, newRow, grownCap, run_firstCells_none]
  | none =>
    obtain ⟨rfl, rfl⟩ := hA rfl
    have hnil : olds = [] := List.eq_nil_of_length_eq_zero (by simpa using hlo)
    subst hnil
    cases B with
    | none => have := hB rfl; omega
    | some b' =>
      have := run_append_nil (P := P) w T ty e i z ht hi hz b' m c news hln (hnews b' rfl) (by omega) (by omega) (by simp at hfit; omega)
      simp only [Nat.zero_add]
      rw [this]
      simp
/-- An append of nothing. -/
theorem run_append_none {ty T e : TypeId} {i : TypeInfo} (ht : P.underlying T = some (.slice e)) (hi : P.info? e = some i) (A B : Option Addr) (sLen sCap c : Nat) (hc : sLen ≤ sCap) :
    (Builtin.append_ #[T, T] ty #[.slice A sLen sCap, .slice B 0 c]).run P w = .ok (.slice A sLen sCap) w := by
  cases B with
  | none => cases A <;> simp [Builtin.append_, run_underlying ht, sizeOf, typeInfo, hi, Builtin.lenOf, hc, Builtin.firstCells, storeCells]
  | some b => cases A <;> simp [Builtin.append_, run_underlying ht, sizeOf, typeInfo, hi, Builtin.lenOf, hc, Builtin.firstCells, loadCells, loadCellsFrom, storeCells]
/-- An append within the capacity. -/
theorem run_append_in {ty T e : TypeId} {i : TypeInfo} {w' : World} (ht : P.underlying T = some (.slice e)) (hi : P.info? e = some i) (b q sLen sCap m c : Nat) (B : Addr) (news : List Value) (hln : news.length = m * i.size)
    (hnews : ∀ (j : Nat) (u : Value), news[j]? = some u → w.cell? (B.add j) = some u) (hroom : sLen + m ≤ sCap) (hst : (storeCells ⟨b, q + sLen * i.size, none⟩ news 0).run P w = .ok () w') :
    (Builtin.append_ #[T, T] ty #[.slice (some ⟨b, q, none⟩) sLen sCap, .slice (some B) m c]).run P w = .ok (.slice (some ⟨b, q, none⟩) (sLen + m) sCap) w' := by
  have hf := run_firstCells_some (P := P) w i.size m B m c news hln hnews
  simp [Builtin.append_, run_underlying ht, sizeOf, typeInfo, hi, Builtin.lenOf, hroom, hf, Addr.add_lit, hst]

theorem execOp_append {x y : Operand} {ts : Array TypeId} {v : Value} {w' : World} (ho : o.op = .call { callee := .builtin .append, args := #[x, y], argTypes := ts }) (hrun : (Builtin.append_ ts o.type #[a.eval x, a.eval y]).run P w = .ok v w') :
    (execOp a.eval o).run P w = .ok (.value v) w' := by
  simp only [execOp, ho, resolve, invoke, builtin, Sem.run_bind, Sem.run_pure, Result.andThen_ok, List.map_toArray, List.map_cons, List.map_nil, hrun]

theorem size_zeroCells' (z : Array Value) (k : Nat) : (Builtin.zeroCells z k).size = k * z.size := by simp [Builtin.zeroCells]

theorem arr_of_list {α : Type} {xs : Array α} {l : List α} (h : xs.toList = l) : xs = l.toArray := by rw [← h]
/-- Equality of two rows of cells that are of a type of integers, booleans, strings, and structs of such. -/
def eqFs (P : Program) (E : TypeId → List Value → List Value → Option Bool) (xs ys : List Value) : List Field → Option Bool
  | [] => some true
  | f :: r => if f.name = "_" then eqFs P E xs ys r else match P.info? f.type with
    | some i => match E f.type ((xs.drop f.offset).take i.size) ((ys.drop f.offset).take i.size), eqFs P E xs ys r with
      | some a, some b => some (a && b)
      | _, _ => none
    | none => none
def eqV (P : Program) : Nat → TypeId → List Value → List Value → Option Bool
  | 0, _, _, _ => none
  | d + 1, t, xs, ys => match P.underlying t with
    | some (.struct fs) => if P.stoodInHeld t = true then none else eqFs P (eqV P d) xs ys fs.toList
    | some .bool => match xs, ys with
      | [.bool a], [.bool b] => some (a == b)
      | _, _ => none
    | some (.int _) => match xs, ys with
      | [.int k a], [.int k' b] => if k = k' then some (a == b) else none
      | _, _ => none
    | some .string => match xs, ys with
      | [.string a], [.string b] => some (a == b)
      | _, _ => none
    | _ => none
def mkV (P : Program) (t : TypeId) (xs : List Value) : Option Value :=
  match P.underlying t with
  | some d => if aggDesc d = true then some (.agg xs.toArray) else xs[0]?
  | none => none
theorem eqV_mk {d : Nat} {t : TypeId} {xs ys : List Value} {b : Bool} (h : eqV P d t xs ys = some b) : ∃ x y, mkV P t xs = some x ∧ mkV P t ys = some y := by
  cases d with
  | zero => simp [eqV] at h
  | succ d =>
    unfold mkV
    simp only [eqV] at h
    cases hu : P.underlying t with
    | none => simp [hu] at h
    | some k =>
      cases k <;> simp only [hu] at h <;> (try cases h; done)
      case struct => exact ⟨_, _, rfl, rfl⟩
      all_goals (split at h <;> first | exact ⟨_, _, rfl, rfl⟩ | cases h)
theorem quiet_partQ {t : TypeId} {cs : Array Value} {off : Nat} {i : TypeInfo} {x : Value} (hi : P.info? t = some i) (h : mkV P t ((cs.toList.drop off).take i.size) = some x) : quiet P (part t cs off) = some x := by
  unfold mkV at h
  cases hu : P.underlying t with
  | none => simp [hu] at h
  | some d =>
    simp only [hu] at h
    simp only [part, quiet_bind, quiet_agg, hu, Option.map_some, Option.bind_some]
    cases hd : aggDesc d with
    | true =>
      simp only [hd, if_true] at h ⊢
      simp only [quiet_bind, quiet_size, hi, Option.map_some, Option.bind_some, quiet_pure]
      rw [← h]
      congr 2
      apply Array.toList_inj.1
      simp only [Array.toList_extract, List.extract_eq_take_drop]
      congr 1
      omega
    | false =>
      simp only [hd, Bool.false_eq_true, if_false] at h ⊢
      rw [List.getElem?_take] at h
      split at h
      · rw [List.getElem?_drop, Nat.add_zero, Array.getElem?_toList] at h
        rw [h]; rfl
      · cases h
theorem eqV_sound : ∀ (d : Nat) (t : TypeId) (xs ys : List Value) (b : Bool) (d' : Nat), eqV P d t xs ys = some b → d ≤ d' → ∀ x y, mkV P t xs = some x → mkV P t ys = some y → quiet P (Op.equalIn d' t x y) = some b
  | 0, _, _, _, _, _, h, _, _, _, _, _ => by simp [eqV] at h
  | d + 1, t, xs, ys, b, 0, h, hd, _, _, _, _ => by omega
  | d + 1, t, xs, ys, b, d' + 1, h, hd, x, y, hx, hy => by
    have hleaf : ∀ {k x} {zs : List Value} {z : Value}, P.underlying t = some k → aggDesc k = false → zs = [z] → mkV P t zs = some x → x = z := fun hu ha hz h => by
      subst hz
      simp only [mkV, hu, ha] at h
      simpa using h.symm
    simp only [eqV] at h
    simp only [Op.equalIn, quiet_bind, quiet_under]
    cases hu : P.underlying t with
    | none => simp [hu] at h
    | some k =>
      simp only [hu] at h
      simp only [Option.bind_some]
      cases k <;> simp only at h <;> (try cases h; done)
      case bool =>
        split at h
        · cases h
          have e1 := hleaf hu rfl rfl hx
          have e2 := hleaf hu rfl rfl hy
          subst e1; subst e2
          rfl
        · cases h
      case int q =>
        split at h
        · split at h
          · cases h
            have e1 := hleaf hu rfl rfl hx
            have e2 := hleaf hu rfl rfl hy
            subst e1; subst e2
            rename_i e; subst e
            simp
          · cases h
        · cases h
      case string =>
        split at h
        · cases h
          have e1 := hleaf hu rfl rfl hx
          have e2 := hleaf hu rfl rfl hy
          subst e1; subst e2
          rfl
        · cases h
      case struct fs =>
        split at h
        · cases h
        rename_i hst
        have e1 : x = .agg xs.toArray := by simp only [mkV, hu] at hx; simpa [aggDesc] using hx.symm
        have e2 : y = .agg ys.toArray := by simp only [mkV, hu] at hy; simpa [aggDesc] using hy.symm
        subst e1; subst e2
        simp only
        have hp : quiet P (program : Sem Program) = some P := rfl
        simp only [quiet_bind, hp, Option.bind_some, hst, Bool.false_eq_true, if_false]
        rw [← Array.forIn_toList]
        have key : ∀ (l : List Field) (b : Bool), eqFs P (eqV P d) xs ys l = some b → quiet P (Op.eqFields d' xs.toArray ys.toArray l) = some b := by
          intro l
          induction l with
          | nil => intro b hb; simp [eqFs] at hb; subst hb; rfl
          | cons f r ih =>
            intro b hb
            simp only [eqFs] at hb
            simp only [Op.eqFields]
            by_cases hn : f.name = "_"
            · simp only [hn, if_true] at hb
              simp only [hn, ne_eq, not_true_eq_false, if_false]
              exact ih b hb
            · simp only [hn, if_false] at hb
              simp only [hn, ne_eq, not_false_eq_true, if_true]
              cases hi : P.info? f.type with
              | none => simp [hi] at hb
              | some i =>
                simp only [hi] at hb
                cases h1 : eqV P d f.type ((xs.drop f.offset).take i.size) ((ys.drop f.offset).take i.size) with
                | none => simp [h1] at hb
                | some a =>
                  cases h2 : eqFs P (eqV P d) xs ys r with
                  | none => simp [h1, h2] at hb
                  | some c =>
                    simp only [h1, h2, Option.some.injEq] at hb
                    obtain ⟨u, v, hu', hv'⟩ := eqV_mk h1
                    simp only [quiet_bind]
                    rw [quiet_partQ (cs := xs.toArray) hi hu', Option.bind_some, quiet_partQ (cs := ys.toArray) hi hv', Option.bind_some, eqV_sound d _ _ _ a d' h1 (by omega) u v hu' hv', Option.bind_some]
                    subst hb
                    cases a
                    · rfl
                    · simpa using ih c h2
        rw [← key fs.toList b h]
        clear key h hu hx hy hst
        generalize fs.toList = l
        induction l with
        | nil => rfl
        | cons f r ih =>
          simp only [List.forIn_cons, Op.eqFields, quiet_bind]
          split
          · simp only [quiet_bind]
            cases quiet P (part f.type xs.toArray f.offset) with
            | none => rfl
            | some a =>
              simp only [Option.bind_some]
              cases quiet P (part f.type ys.toArray f.offset) with
              | none => rfl
              | some c =>
                simp only [Option.bind_some]
                cases quiet P (Op.equalIn d' f.type a c) with
                | none => rfl
                | some e =>
                  cases e
                  · rfl
                  · simp only [Option.bind_some, Bool.not_true, Bool.false_eq_true, if_false, quiet_pure]
                    exact ih
          · simp only [quiet_pure, Option.bind_some]
            exact ih
end
end Go.Proofs.Ythjikjhddddplaa
