import Derived.WalkKit
import Derived.Lib.Hide
import Derived.Orders
import Derived.Laws.Append
/-
  The machine over typed values, 2: runs of the model's own operations. No program in sight.
-/
namespace Go.Proofs.YtoclmkbjgmgekaaDoor
set_option linter.unusedVariables false
set_option linter.unusedSimpArgs false
set_option linter.unusedSectionVars false
open Go.RowKit

/-- What a computation yields that asks for nothing but the program. -/
def quiet {α : Type} (P : Program) : Sem α → Option α
  | .pure a => some a
  | .program k => quiet P (k P)
  | _ => none
theorem quiet_run {α : Type} {P : Program} {s : Sem α} {a : α} (h : quiet P s = some a) (w : World) : s.run P w = .ok a w := by
  induction s with
  | pure b => simp only [quiet, Option.some.injEq] at h; subst h; rfl
  | program k ih => simp only [quiet] at h; exact ih P h
  | _ => simp [quiet] at h
theorem quiet_bind {α β : Type} {P : Program} (s : Sem α) (f : α → Sem β) : quiet P (s >>= f) = (quiet P s).bind fun a => quiet P (f a) := by
  show quiet P (s.bind f) = _
  induction s with
  | pure b => rfl
  | program k ih => exact ih P
  | _ => rfl

def aggDesc : TypeDesc → Bool
  | .struct _ | .array _ _ => true
  | _ => false

section
variable {P : Program} {w : World} {a : Act} {o : Oper}
theorem cells_one {x : Value} (h : x.oneCell' = true) : x.cells = #[x] := by
  cases x <;> first | rfl | (simp [Value.oneCell'] at h)
@[simp] theorem quiet_pure {α : Type} (x : α) : quiet P (pure x) = some x := rfl
@[simp] theorem quiet_Pure {α : Type} (x : α) : quiet P (Sem.pure x) = some x := rfl
@[simp] theorem quiet_under (T : TypeId) : quiet P (underlying T) = P.underlying T := by
  show quiet P (Sem.program _) = _
  simp only [quiet]
  show quiet P (match P.underlying T with | some d => pure d | none => stuck "no such type") = _
  cases P.underlying T <;> rfl
@[simp] theorem quiet_info (T : TypeId) : quiet P (typeInfo T) = P.info? T := by
  show quiet P (Sem.program _) = _
  simp only [quiet]
  show quiet P (match P.info? T with | some d => pure d | none => stuck "no such type") = _
  cases P.info? T <;> rfl
@[simp] theorem quiet_size (T : TypeId) : quiet P (sizeOf T) = (P.info? T).map (·.size) := by
  unfold sizeOf
  rw [quiet_bind, quiet_info]
  cases P.info? T <;> rfl
@[simp] theorem quiet_zero (T : TypeId) : quiet P (zeroValue T) = (P.info? T).bind (·.zero) := by
  unfold zeroValue
  rw [quiet_bind, quiet_info]
  cases P.info? T with
  | none => rfl
  | some i => cases h : i.zero <;> simp [h] <;> rfl
@[simp] theorem quiet_agg (T : TypeId) : quiet P (isAgg T) = (P.underlying T).map aggDesc := by
  unfold isAgg
  rw [quiet_bind, quiet_under]
  cases P.underlying T with
  | none => rfl
  | some d => cases d <;> rfl
@[simp] theorem quiet_map {α β : Type} (f : α → β) (s : Sem α) : quiet P (Functor.map f s) = (quiet P s).map f := by
  show quiet P (s >>= _) = _
  rw [quiet_bind]
  cases quiet P s <;> rfl
theorem exists_list {β : Type} (n : Nat) {p : Nat → β → Prop} (h : ∀ j, j < n → ∃ y, p j y) : ∃ l : List β, l.length = n ∧ ∀ (j : Nat) (y : β), l[j]? = some y → p j y := by
  induction n with
  | zero => exact ⟨[], rfl, by simp⟩
  | succ n ih =>
    obtain ⟨l, h1, h2⟩ := ih fun j hj => h j (by omega)
    obtain ⟨y, hy⟩ := h n (by omega)
    refine ⟨l ++ [y], by simp [h1], fun j z hz => ?_⟩
    by_cases hj : j < l.length
    · rw [List.getElem?_append_left hj] at hz; exact h2 j z hz
    · rw [List.getElem?_append_right (by omega)] at hz
      by_cases e : j - l.length = 0
      · rw [e] at hz; simp at hz; subst hz
        have : j = n := by omega
        subst this; exact hy
      · have : j - l.length = (j - l.length - 1) + 1 := by omega
        rw [this] at hz; simp at hz
/-- A row of values is stored. -/
theorem run_storeRow (b q : Nat) : ∀ (vs : List Value) (i : Nat) (w : World) (blk : Array Value) (T : TypeId) (fr : Nat × Nat), w.heap[b]? = some (.cells blk T fr) → (∀ j, j < blk.size → ¬ (fr.1 ≤ j ∧ j < fr.2)) → q + i + vs.length ≤ blk.size → (∀ v ∈ vs, v.oneCell' = true) →
    ∃ (w' : World) (blk' : Array Value), (storeCells ⟨b, q, none⟩ vs i).run P w = .ok () w' ∧ w'.heap[b]? = some (.cells blk' T fr) ∧ blk'.size = blk.size ∧ (∀ j, blk'[j]? = if q + i ≤ j ∧ j < q + i + vs.length then vs[j - (q + i)]? else blk[j]?) ∧
      (∀ k, k ≠ b → w'.heap[k]? = w.heap[k]?) ∧ w'.heap.size = w.heap.size ∧ w'.os = w.os ∧ w'.tape = w.tape ∧ w'.output = w.output
  | [], i, w, blk, T, fr, h1, _, _, _ => ⟨w, blk, rfl, h1, rfl, fun j => by rw [if_neg (by simp)], fun _ _ => rfl, rfl, rfl, rfl, rfl⟩
  | v :: r, i, w, blk, T, fr, h1, h2, h3, h4 => by
    have hi : q + i < blk.size := by simp at h3; omega
    have hadd : (⟨b, q, none⟩ : Addr).add i = ⟨b, q + i, none⟩ := by unfold Addr.add; split <;> simp_all
    have hcell : w.cell? ⟨b, q + i, none⟩ = some blk[q + i] := by simp [World.cell?, h1, hi]
    have hfro : w.frozen? ⟨b, q + i, none⟩ = false := by
      have := h2 _ hi
      simp only [World.frozen?, h1]
      simp
      omega
    have hst : (store ((⟨b, q, none⟩ : Addr).add i) v).run P w = .ok () (w.setCell ⟨b, q + i, none⟩ v) := by
      rw [hadd, run_store P w _ v _ (h4 v (by simp)), hcell]
      simp [hfro]
    have hw1 : (w.setCell ⟨b, q + i, none⟩ v).heap[b]? = some (.cells (blk.setIfInBounds (q + i) v) T fr) := by
      simp [World.setCell, Array.getElem?_modify, h1]
    obtain ⟨w', blk', a1, a2, a3, a4, a5, a6, a7, a8, a9⟩ := run_storeRow b q r (i + 1) (w.setCell ⟨b, q + i, none⟩ v) _ T fr hw1 (by simpa using h2) (by simp at h3 ⊢; omega) (fun x hx => h4 x (by simp [hx]))
    refine ⟨w', blk', ?_, a2, by simpa using a3, fun j => ?_, fun k hk => (a5 k hk).trans (Below.heap_setCell w _ v k hk), by simpa [World.setCell] using a6, a7, a8, a9⟩
    · simp only [storeCells, Sem.run_bind, hst, Result.andThen_ok, a1]
    · rw [a4 j, Array.getElem?_setIfInBounds]
      by_cases e : j = q + i
      · subst e
        rw [if_neg (by omega), if_pos rfl, if_pos hi, if_pos (by simp)]
        simp
      · rw [if_neg (show ¬ q + i = j from fun h => e h.symm)]
        by_cases e2 : q + (i + 1) ≤ j ∧ j < q + (i + 1) + r.length
        · rw [if_pos e2, if_pos (by simp; omega)]
          have : j - (q + i) = (j - (q + (i + 1))) + 1 := by omega
          rw [this]; simp
        · rw [if_neg e2, if_neg (by simp; omega)]

theorem foldl_zip (off : Nat) : ∀ (l : List Value) (s : Nat) (xs : Array Value), off + s + l.length ≤ xs.size →
    ((l.zipIdx s).foldl (fun cs (p : Value × Nat) => cs.setIfInBounds (off + p.2) p.1) xs).size = xs.size ∧ ∀ (j : Nat), ((l.zipIdx s).foldl (fun cs (p : Value × Nat) => cs.setIfInBounds (off + p.2) p.1) xs)[j]? = if off + s ≤ j ∧ j < off + s + l.length then l[j - (off + s)]? else xs[j]?
  | [], s, xs, _ => ⟨rfl, fun j => by rw [if_neg (by simp)]; rfl⟩
  | v :: r, s, xs, h => by
    simp only [List.length_cons] at h
    obtain ⟨h1, h2⟩ := foldl_zip off r (s + 1) (xs.setIfInBounds (off + s) v) (by simp; omega)
    simp only [List.zipIdx_cons, List.foldl_cons]
    refine ⟨by simpa using h1, fun j => ?_⟩
    rw [h2 j, Array.getElem?_setIfInBounds]
    by_cases e : j = off + s
    · subst e
      rw [if_neg (by omega), if_pos rfl, if_pos (by omega), if_pos (by simp)]
      simp
    · rw [if_neg (show ¬ off + s = j from fun h => e h.symm)]
      by_cases e2 : off + (s + 1) ≤ j ∧ j < off + (s + 1) + r.length
      · rw [if_pos e2, if_pos (by simp; omega)]
        have : j - (off + s) = (j - (off + (s + 1))) + 1 := by omega
        rw [this]; simp
      · rw [if_neg e2, if_neg (by simp; omega)]
theorem foldl_arr (off : Nat) (ys xs : Array Value) (h : off + ys.size ≤ xs.size) :
    (ys.zipIdx.foldl (fun cs (p : Value × Nat) => cs.setIfInBounds (off + p.2) p.1) xs).size = xs.size ∧ ∀ (j : Nat), (ys.zipIdx.foldl (fun cs (p : Value × Nat) => cs.setIfInBounds (off + p.2) p.1) xs)[j]? = if off ≤ j ∧ j < off + ys.size then ys[j - off]? else xs[j]? := by
  have := foldl_zip off ys.toList 0 xs (by simpa using h)
  rw [← Array.foldl_toList, Array.toList_zipIdx]
  simpa using this

theorem grownCap_bounds (w : World) (need old : Nat) (e : TypeId) (h : need ≤ maxLen) : need ≤ grownCap w need old e ∧ grownCap w need old e ≤ maxLen := by
  unfold grownCap Question.cut
  simp only [maxLen] at *
  have : (w.tape w.drawn (.appendCap need old e)) % (2 ^ 63 - need) < 2 ^ 63 - need := Nat.mod_lt _ (by omega)
  omega
/-- An append that makes a new row. -/
theorem run_append_new {ty T e : TypeId} {i : TypeInfo} {z : Value} (ht : P.underlying T = some (.slice e)) (hi : P.info? e = some i) (hz : i.zero = some z) (A B : Option Addr) (sLen sCap m c : Nat) (olds news : List Value)
    (hlo : olds.length = sLen * i.size) (hA : A = none → sLen = 0 ∧ sCap = 0) (holds : ∀ b, A = some b → ∀ (j : Nat) (u : Value), olds[j]? = some u → w.cell? (b.add j) = some u)
    (hln : news.length = m * i.size) (hB : B = none → m = 0) (hnews : ∀ b, B = some b → ∀ (j : Nat) (u : Value), news[j]? = some u → w.cell? (b.add j) = some u) (hg : sCap < sLen + m) (h63 : sLen + m ≤ maxLen) (hfit : (sLen + m) * i.bytes ≤ 140737488355328) :
    (Builtin.append_ #[T, T] ty #[.slice A sLen sCap, .slice B m c]).run P w =
      .ok (.slice (some ⟨w.heap.size, 0, none⟩) (sLen + m) (grownCap w (sLen + m) sCap e)) (w.drew.alloc (.cells (olds.toArray ++ news.toArray ++ Builtin.zeroCells z.cells (grownCap w (sLen + m) sCap e - (sLen + m))) e)) := by
  have h63' : ((sLen + m : Nat) : Int) ≤ 9223372036854775807 := by simp only [maxLen] at h63; omega
  cases A with
  | some b =>
    cases B with
    | some b' => exact run_append_grow w T ty e i z ht hi hz b sLen sCap olds hlo (holds b rfl) b' m c news hln (hnews b' rfl) hg h63' (growslice_fits hg hfit)
    | none =>
      have hm := hB rfl
      subst hm
      have hnil : news = [] := List.eq_nil_of_length_eq_zero (by simpa using hln)
      subst hnil
      have hn : ¬ (sLen ≤ sCap) := by omega
      have h2 : ¬ (9223372036854775807 < (sLen : Int)) := by omega
      have h48' : ¬ (281474976710656 < Builtin.nextslicecap sLen sCap * i.bytes) := by have := growslice_fits hg hfit; simp at this; omega
      have hfo := run_firstCells_some (P := P) w.drew i.size sLen b sLen sCap olds hlo (by simpa using holds b rfl)
      simp [Builtin.append_, run_underlying ht, sizeOf, typeInfo, zeroValue, hi, hz, Builtin.lenOf, hn, h2, h48', Question.forced, hfo, newRow, grownCap, run_firstCells_none]
  | none =>
    obtain ⟨rfl, rfl⟩ := hA rfl
    have hnil : olds = [] := List.eq_nil_of_length_eq_zero (by simpa using hlo)
    subst hnil
    cases B with
    | none => have := hB rfl; omega
    | some b' =>
      have := run_append_nil (P := P) w T ty e i z ht hi hz b' m c news hln (hnews b' rfl) (by omega) (by omega) (by simp at hfit; omega)
      simp only [Nat.zero_add]
      rw [this]
      simp
/-- An append of zeros that makes a new row. -/
theorem run_append_zeros {ty T U e : TypeId} {i : TypeInfo} {z : Value} {ik : IntKind} (ht : P.underlying T = some (.slice e)) (hU : P.underlying U = some (.int ik)) (hi : P.info? e = some i) (hz : i.zero = some z) (A : Option Addr) (sLen sCap m : Nat) (k : IntKind) (olds : List Value)
    (hlo : olds.length = sLen * i.size) (hA : A = none → sLen = 0 ∧ sCap = 0) (holds : ∀ b, A = some b → ∀ (j : Nat) (u : Value), olds[j]? = some u → w.cell? (b.add j) = some u)
    (hm : 0 < m) (hs : 0 < i.size) (hg : sCap < sLen + m) (h63 : sLen + m ≤ maxLen) (hfit : (sLen + m) * i.bytes ≤ 140737488355328) :
    (Builtin.append_ #[T, U] ty #[.slice A sLen sCap, .int k (m : Int)]).run P w =
      .ok (.slice (some ⟨w.heap.size, 0, none⟩) (sLen + m) (grownCap w (sLen + m) sCap e)) (w.drew.alloc (.cells (olds.toArray ++ Builtin.zeroCells z.cells m ++ Builtin.zeroCells z.cells (grownCap w (sLen + m) sCap e - (sLen + m))) e)) := by
  have h63' : ((sLen + m : Nat) : Int) ≤ 9223372036854775807 := by simp only [maxLen] at h63; omega
  have hw : IntKind.i64.wrap (m : Int) = (m : Int) := by simp [IntKind.wrap, IntKind.bits, IntKind.signed]; omega
  have hn : ¬ (sLen + m ≤ sCap) := by omega
  have h1 : ¬ ((m : Int) < 0) := by omega
  have hle : m * i.bytes ≤ (sLen + m) * i.bytes := Nat.mul_le_mul_right _ (by omega)
  have h2 : ¬ (281474976710656 < (m : Int) * (i.bytes : Int)) := by rw [← Int.natCast_mul]; omega
  have h3 : ¬ (9223372036854775807 < (sLen : Int) + (m : Int)) := by omega
  have h4 : ¬ (281474976710656 < Builtin.nextslicecap (sLen + m) sCap * i.bytes) := by have := growslice_fits hg hfit; omega
  have h5 : ¬ (m * i.size = 0) := Nat.ne_of_gt (Nat.mul_pos hm hs)
  have h6 : ¬ (m = 0) := by omega
  have h7 : ¬ (9223372036854775807 < (m : Int)) := by omega
  cases A with
  | some b =>
    have hfo := run_firstCells_some (P := P) w.drew i.size sLen b sLen sCap olds hlo (by simpa using holds b rfl)
    simp [Builtin.append_, run_underlying ht, run_underlying hU, sizeOf, typeInfo, zeroValue, hi, hz, asInt, asIntOf, hw, h1, h2, hn, h3, h4, h5, Question.forced, hfo, newRow, grownCap]
  | none =>
    obtain ⟨rfl, rfl⟩ := hA rfl
    have hnil : olds = [] := List.eq_nil_of_length_eq_zero (by simpa using hlo)
    subst hnil
    simp only [Nat.zero_add] at *
    simp [Builtin.append_, run_underlying ht, run_underlying hU, sizeOf, typeInfo, zeroValue, hi, hz, asInt, asIntOf, hw, h1, h2, hn, h3, h4, h5, h6, h7, Question.forced, newRow, grownCap, run_firstCells_none]
/-- An append of nothing. -/
theorem run_append_none {ty T e : TypeId} {i : TypeInfo} (ht : P.underlying T = some (.slice e)) (hi : P.info? e = some i) (A B : Option Addr) (sLen sCap c : Nat) (hc : sLen ≤ sCap) :
    (Builtin.append_ #[T, T] ty #[.slice A sLen sCap, .slice B 0 c]).run P w = .ok (.slice A sLen sCap) w := by
  cases B with
  | none => cases A <;> simp [Builtin.append_, run_underlying ht, sizeOf, typeInfo, hi, Builtin.lenOf, hc, Builtin.firstCells, storeCells]
  | some b => cases A <;> simp [Builtin.append_, run_underlying ht, sizeOf, typeInfo, hi, Builtin.lenOf, hc, Builtin.firstCells, loadCells, loadCellsFrom, storeCells]
/-- An append within the capacity. -/
theorem run_append_in {ty T e : TypeId} {i : TypeInfo} {w' : World} (ht : P.underlying T = some (.slice e)) (hi : P.info? e = some i) (b q sLen sCap m c : Nat) (B : Addr) (news : List Value) (hln : news.length = m * i.size)
    (hnews : ∀ (j : Nat) (u : Value), news[j]? = some u → w.cell? (B.add j) = some u) (hroom : sLen + m ≤ sCap) (hst : (storeCells ⟨b, q + sLen * i.size, none⟩ news 0).run P w = .ok () w') :
    (Builtin.append_ #[T, T] ty #[.slice (some ⟨b, q, none⟩) sLen sCap, .slice (some B) m c]).run P w = .ok (.slice (some ⟨b, q, none⟩) (sLen + m) sCap) w' := by
  have hf := run_firstCells_some (P := P) w i.size m B m c news hln hnews
  simp [Builtin.append_, run_underlying ht, sizeOf, typeInfo, hi, Builtin.lenOf, hroom, hf, Addr.add_lit, hst]

theorem execOp_append {x y : Operand} {ts : Array TypeId} {v : Value} {w' : World} (ho : o.op = .call { callee := .builtin .append, args := #[x, y], argTypes := ts }) (hrun : (Builtin.append_ ts o.type #[a.eval x, a.eval y]).run P w = .ok v w') :
    (execOp a.eval o).run P w = .ok (.value v) w' := by
  simp only [execOp, ho, resolve, invoke, builtin, Sem.run_bind, Sem.run_pure, Result.andThen_ok, List.map_toArray, List.map_cons, List.map_nil, hrun]

theorem size_zeroCells' (z : Array Value) (k : Nat) : (Builtin.zeroCells z k).size = k * z.size := by simp [Builtin.zeroCells]

theorem arr_of_list {α : Type} {xs : Array α} {l : List α} (h : xs.toList = l) : xs = l.toArray := by rw [← h]
/-- Equality of two rows of cells that are of a type of integers, booleans, strings, and structs of such. -/
def eqFs (P : Program) (E : TypeId → List Value → List Value → Option Bool) (xs ys : List Value) : List Field → Option Bool
  | [] => some true
  | f :: r => if f.name = "_" then eqFs P E xs ys r else match P.info? f.type with
    | some i => match E f.type ((xs.drop f.offset).take i.size) ((ys.drop f.offset).take i.size), eqFs P E xs ys r with
      | some a, some b => some (a && b)
      | _, _ => none
    | none => none
def eqIs (E : List Value → List Value → Option Bool) (s : Nat) (xs ys : List Value) : List Nat → Option Bool
  | [] => some true
  | i :: r => match E ((xs.drop (i * s)).take s) ((ys.drop (i * s)).take s), eqIs E s xs ys r with
    | some a, some b => some (a && b)
    | _, _ => none
def eqV (P : Program) : Nat → TypeId → List Value → List Value → Option Bool
  | 0, _, _, _ => none
  | d + 1, t, xs, ys => match P.underlying t with
    | some (.array n e) => match P.info? e with
      | some i => eqIs (eqV P d e) i.size xs ys (List.range' 0 n)
      | none => none
    | some (.struct fs) => if P.stoodInHeld t = true then none else eqFs P (eqV P d) xs ys fs.toList
    | some .bool => match xs, ys with
      | [.bool a], [.bool b] => some (a == b)
      | _, _ => none
    | some (.int _) => match xs, ys with
      | [.int k a], [.int k' b] => if k = k' then some (a == b) else none
      | _, _ => none
    | some .string => match xs, ys with
      | [.string a], [.string b] => some (a == b)
      | _, _ => none
    | _ => none
def mkV (P : Program) (t : TypeId) (xs : List Value) : Option Value :=
  match P.underlying t with
  | some d => if aggDesc d = true then some (.agg xs.toArray) else xs[0]?
  | none => none
theorem eqV_mk {d : Nat} {t : TypeId} {xs ys : List Value} {b : Bool} (h : eqV P d t xs ys = some b) : ∃ x y, mkV P t xs = some x ∧ mkV P t ys = some y := by
  cases d with
  | zero => simp [eqV] at h
  | succ d =>
    unfold mkV
    simp only [eqV] at h
    cases hu : P.underlying t with
    | none => simp [hu] at h
    | some k =>
      cases k <;> simp only [hu] at h <;> (try cases h; done)
      case struct => exact ⟨_, _, rfl, rfl⟩
      case array => exact ⟨_, _, rfl, rfl⟩
      all_goals (split at h <;> first | exact ⟨_, _, rfl, rfl⟩ | cases h)
theorem quiet_partQ {t : TypeId} {cs : Array Value} {off : Nat} {i : TypeInfo} {x : Value} (hi : P.info? t = some i) (h : mkV P t ((cs.toList.drop off).take i.size) = some x) : quiet P (part t cs off) = some x := by
  unfold mkV at h
  cases hu : P.underlying t with
  | none => simp [hu] at h
  | some d =>
    simp only [hu] at h
    simp only [part, quiet_bind, quiet_agg, hu, Option.map_some, Option.bind_some]
    cases hd : aggDesc d with
    | true =>
      simp only [hd, if_true] at h ⊢
      simp only [quiet_bind, quiet_size, hi, Option.map_some, Option.bind_some, quiet_pure]
      rw [← h]
      congr 2
      apply Array.toList_inj.1
      simp only [Array.toList_extract, List.extract_eq_take_drop]
      congr 1
      omega
    | false =>
      simp only [hd, Bool.false_eq_true, if_false] at h ⊢
      rw [List.getElem?_take] at h
      split at h
      · rw [List.getElem?_drop, Nat.add_zero, Array.getElem?_toList] at h
        rw [h]; rfl
      · cases h
theorem eqV_sound : ∀ (d : Nat) (t : TypeId) (xs ys : List Value) (b : Bool) (d' : Nat), eqV P d t xs ys = some b → d ≤ d' → ∀ x y, mkV P t xs = some x → mkV P t ys = some y → quiet P (Op.equalIn d' t x y) = some b
  | 0, _, _, _, _, _, h, _, _, _, _, _ => by simp [eqV] at h
  | d + 1, t, xs, ys, b, 0, h, hd, _, _, _, _ => by omega
  | d + 1, t, xs, ys, b, d' + 1, h, hd, x, y, hx, hy => by
    have hleaf : ∀ {k x} {zs : List Value} {z : Value}, P.underlying t = some k → aggDesc k = false → zs = [z] → mkV P t zs = some x → x = z := fun hu ha hz h => by
      subst hz
      simp only [mkV, hu, ha] at h
      simpa using h.symm
    simp only [eqV] at h
    simp only [Op.equalIn, quiet_bind, quiet_under]
    cases hu : P.underlying t with
    | none => simp [hu] at h
    | some k =>
      simp only [hu] at h
      simp only [Option.bind_some]
      cases k <;> simp only at h <;> (try cases h; done)
      case bool =>
        split at h
        · cases h
          have e1 := hleaf hu rfl rfl hx
          have e2 := hleaf hu rfl rfl hy
          subst e1; subst e2
          rfl
        · cases h
      case int q =>
        split at h
        · split at h
          · cases h
            have e1 := hleaf hu rfl rfl hx
            have e2 := hleaf hu rfl rfl hy
            subst e1; subst e2
            rename_i e; subst e
            simp
          · cases h
        · cases h
      case string =>
        split at h
        · cases h
          have e1 := hleaf hu rfl rfl hx
          have e2 := hleaf hu rfl rfl hy
          subst e1; subst e2
          rfl
        · cases h
      case array m e =>
        cases hi : P.info? e with
        | none => simp [hi] at h
        | some i =>
        simp only [hi] at h
        have e1 : x = .agg xs.toArray := by simp only [mkV, hu] at hx; simpa [aggDesc] using hx.symm
        have e2 : y = .agg ys.toArray := by simp only [mkV, hu] at hy; simpa [aggDesc] using hy.symm
        subst e1; subst e2
        simp only [quiet_bind, quiet_size, hi, Option.map_some, Option.bind_some]
        simp only [Std.Legacy.Range.forIn_eq_forIn_range', Std.Legacy.Range.size, Nat.sub_zero, Nat.add_one_sub_one, Nat.div_one]
        clear hu hx hy
        generalize List.range' 0 m = is at h ⊢
        induction is generalizing b with
        | nil => simp only [eqIs, Option.some.injEq] at h; subst h; rfl
        | cons j is ih =>
          simp only [eqIs] at h
          cases h1 : eqV P d e ((xs.drop (j * i.size)).take i.size) ((ys.drop (j * i.size)).take i.size) with
          | none => simp [h1] at h
          | some a =>
            cases h2 : eqIs (eqV P d e) i.size xs ys is with
            | none => simp [h1, h2] at h
            | some c =>
              simp only [h1, h2, Option.some.injEq] at h
              obtain ⟨u, v, hu', hv'⟩ := eqV_mk h1
              simp only [List.forIn_cons, quiet_bind]
              rw [quiet_partQ (cs := xs.toArray) hi hu', Option.bind_some, quiet_partQ (cs := ys.toArray) hi hv', Option.bind_some, eqV_sound d _ _ _ a d' h1 (by omega) u v hu' hv', Option.bind_some]
              subst h
              cases a
              · rfl
              · simpa using ih c h2
      case struct fs =>
        split at h
        · cases h
        rename_i hst
        have e1 : x = .agg xs.toArray := by simp only [mkV, hu] at hx; simpa [aggDesc] using hx.symm
        have e2 : y = .agg ys.toArray := by simp only [mkV, hu] at hy; simpa [aggDesc] using hy.symm
        subst e1; subst e2
        simp only
        have hp : quiet P (program : Sem Program) = some P := rfl
        simp only [quiet_bind, hp, Option.bind_some, hst, Bool.false_eq_true, if_false]
        rw [← Array.forIn_toList]
        have key : ∀ (l : List Field) (b : Bool), eqFs P (eqV P d) xs ys l = some b → quiet P (Op.eqFields d' xs.toArray ys.toArray l) = some b := by
          intro l
          induction l with
          | nil => intro b hb; simp [eqFs] at hb; subst hb; rfl
          | cons f r ih =>
            intro b hb
            simp only [eqFs] at hb
            simp only [Op.eqFields]
            by_cases hn : f.name = "_"
            · simp only [hn, if_true] at hb
              simp only [hn, ne_eq, not_true_eq_false, if_false]
              exact ih b hb
            · simp only [hn, if_false] at hb
              simp only [hn, ne_eq, not_false_eq_true, if_true]
              cases hi : P.info? f.type with
              | none => simp [hi] at hb
              | some i =>
                simp only [hi] at hb
                cases h1 : eqV P d f.type ((xs.drop f.offset).take i.size) ((ys.drop f.offset).take i.size) with
                | none => simp [h1] at hb
                | some a =>
                  cases h2 : eqFs P (eqV P d) xs ys r with
                  | none => simp [h1, h2] at hb
                  | some c =>
                    simp only [h1, h2, Option.some.injEq] at hb
                    obtain ⟨u, v, hu', hv'⟩ := eqV_mk h1
                    simp only [quiet_bind]
                    rw [quiet_partQ (cs := xs.toArray) hi hu', Option.bind_some, quiet_partQ (cs := ys.toArray) hi hv', Option.bind_some, eqV_sound d _ _ _ a d' h1 (by omega) u v hu' hv', Option.bind_some]
                    subst hb
                    cases a
                    · rfl
                    · simpa using ih c h2
        rw [← key fs.toList b h]
        clear key h hu hx hy hst
        generalize fs.toList = l
        induction l with
        | nil => rfl
        | cons f r ih =>
          simp only [List.forIn_cons, Op.eqFields, quiet_bind]
          split
          · simp only [quiet_bind]
            cases quiet P (part f.type xs.toArray f.offset) with
            | none => rfl
            | some a =>
              simp only [Option.bind_some]
              cases quiet P (part f.type ys.toArray f.offset) with
              | none => rfl
              | some c =>
                simp only [Option.bind_some]
                cases quiet P (Op.equalIn d' f.type a c) with
                | none => rfl
                | some e =>
                  cases e
                  · rfl
                  · simp only [Option.bind_some, Bool.not_true, Bool.false_eq_true, if_false, quiet_pure]
                    exact ih
          · simp only [quiet_pure, Option.bind_some]
            exact ih
end
end Go.Proofs.YtoclmkbjgmgekaaDoor

/-
  The machine over typed values, 0: the rounds of ranges over functions, as functions of their own. No program in sight.
-/
namespace Go.Proofs.YtoclmkbjgmgekaaDoor
set_option linter.unusedVariables false
set_option linter.unusedSimpArgs false
set_option linter.unusedSectionVars false

/-- A round: its function, the region that its body begins with, and the temporaries that it is handed as captured values. -/
structure YI where
  fn : FuncId
  key : Nat
  live : List Tmp
/-- The range over a function whose body begins with a region of this number. -/
def headKey : Code → Option Nat
  | .region id _ _ => some id
  | .seq a b => match headKey a with
    | some k => some k
    | none => headKey b
  | .block _ c => headKey c
  | .loop c => headKey c
  | _ => none
def rangeAt (k : Nat) : Code → Option (Array Tmp × Code × Code)
  | .seq a b => match rangeAt k a with
    | some r => some r
    | none => rangeAt k b
  | .cond _ a b => match rangeAt k a with
    | some r => some r
    | none => rangeAt k b
  | .block _ c => rangeAt k c
  | .loop c => rangeAt k c
  | .rangeFunc _ ps a b => match decide (headKey b = some k) with
    | true => some (ps, a, b)
    | false => rangeAt k b
  | _ => none
/-- A round's code: how many temporaries there are, where the round's values go, its assignments, its body. -/
def rangeIn (P : Program) (f : FuncId) (k : Nat) : Option (Nat × Array Tmp × Code × Code) :=
  match P.funcs[f]? with
  | some fn => match fn.body with
    | some c => match rangeAt k c with
      | some (ps, a, b) => some (fn.ntmps, ps, a, b)
      | none => none
    | none => none
  | none => none
/-- Code without ranges over functions. -/
def noRange : Code → Bool
  | .seq a b => noRange a && noRange b
  | .cond _ a b => noRange a && noRange b
  | .block _ c => noRange c
  | .loop c => noRange c
  | .rangeFunc .. => false
  | _ => true
end Go.Proofs.YtoclmkbjgmgekaaDoor

/- The kinds of elements of this seat, and its rounds: printed by genkinds.py. -/
namespace Go.Proofs.YtoclmkbjgmgekaaDoor
set_option linter.unusedVariables false
set_option linter.unusedSimpArgs false
set_option linter.unusedSectionVars false
structure Dig where
  b0 : Int
  b1 : Int
  b2 : Int
  b3 : Int
  b4 : Int
  b5 : Int
  b6 : Int
  b7 : Int
  b8 : Int
  b9 : Int
  b10 : Int
  b11 : Int
  b12 : Int
  b13 : Int
  b14 : Int
  b15 : Int
  b16 : Int
  b17 : Int
  b18 : Int
  b19 : Int
  b20 : Int
  b21 : Int
  b22 : Int
  b23 : Int
  b24 : Int
  b25 : Int
  b26 : Int
  b27 : Int
  b28 : Int
  b29 : Int
  b30 : Int
  b31 : Int
  deriving DecidableEq
structure Rng where
  low : Dig
  high : Dig
  listed : Bool
  count : Int
  print : Dig
  ids : List Dig
  deriving DecidableEq
structure Sgn where
  index : Int
  revealed : List Dig
  others : List Dig
  path : List Dig
  deriving DecidableEq
structure Msg where
  kind : Int
  name : ByteArray
  ids : List Dig
  ranges : List Rng
  patches : List ByteArray
  paths : List ByteArray
  code : Int
  text : ByteArray
  sig : Sgn
  deriving DecidableEq
structure Ment where
  key : Int
  val : ByteArray
  deriving DecidableEq
structure Sx where
  isList : Bool
  atom : ByteArray
  list : List Sx
inductive El where
  | str
  | u8
  | dig
  | rng
  | sgn
  | msg
  | ment
  | sexp
  deriving DecidableEq
@[reducible] def ty : El → Type
  | .str => ByteArray
  | .u8 => Int
  | .dig => Dig
  | .rng => Rng
  | .sgn => Sgn
  | .msg => Msg
  | .ment => Ment
  | .sexp => Sx
def ytab : FuncId → Option YI := fun _ => none
end Go.Proofs.YtoclmkbjgmgekaaDoor

/-
  The machine over typed values, 1: values. No program in sight.
-/
namespace Go.Proofs.YtoclmkbjgmgekaaDoor
set_option linter.unusedVariables false
set_option linter.unusedSimpArgs false
set_option linter.unusedSectionVars false

/-- Values: a slice that is only read is a list; a slice of the call's own is a reference to an object of the store. -/
inductive T where
  | undef
  | int (k : IntKind) (n : Int)
  | bool (b : Bool)
  | str (s : ByteArray)
  | cst (v : Value)
  | ub
  | nil
  | sl (full : Bool) (e : El) (l : List (ty e))
  | oa (e : El) (k ver : Nat)
  | os (e : El) (k ver off n : Nat)
  | pt (k off : Nat)
  | pe (e : El) (k ver i j : Nat)
  | pr (e : El) (x : ty e) (j : Nat)
  | ag (cs : List T)
  | tu (cs : List T)
  | fn (f : FuncId) (xs ys : List T)
  | ic (t : TypeId) (v : T)
  | fp
  | mp (k : Nat)
  | as (k n : Nat)
  | ments (e : El) (l : List (ty e))
instance : Inhabited T := ⟨.undef⟩
inductive Ob where
  | cells (cs : List T)
  | arr (ver : Nat) (e : El) (l : List (ty e))
abbrev St := List (Option Ob)
abbrev Tm := List (Nat × T)
def get : Tm → Nat → T
  | [], _ => .undef
  | (j, v) :: r, i => if i = j then v else get r i
def put : Tm → Nat → T → Tm
  | [], i, v => [(i, v)]
  | (j, u) :: r, i, v => if i = j then (i, v) :: r else (j, u) :: put r i v
theorem get_put (t : Tm) (d : Nat) (v : T) (i : Nat) : get (put t d v) i = if i = d then v else get t i := by
  induction t with
  | nil => by_cases h : i = d <;> simp [put, get, h]
  | cons p r ih =>
    obtain ⟨j, u⟩ := p
    by_cases hj : d = j
    · subst hj
      by_cases h : i = d <;> simp [put, get, h]
    · by_cases h : i = j
      · subst h
        have : i ≠ d := fun e => hj e.symm
        simp [put, get, hj, this]
      · by_cases h2 : i = d
        · subst h2; simp [put, get, hj, ih]
        · simp [put, get, hj, h, ih, h2]
def rd : St → Nat → Option Ob
  | [], _ => none
  | x :: _, 0 => x
  | _ :: r, k + 1 => rd r k
theorem rd_eq (st : St) (k : Nat) : rd st k = (st[k]?).join := by
  induction st generalizing k with
  | nil => rfl
  | cons x r ih => cases k <;> simp [rd, ih]
theorem rd_some {st : St} {k : Nat} {o : Ob} : rd st k = some o ↔ st[k]? = some (some o) := by
  rw [rd_eq]; cases h : st[k]? <;> simp
/-- One cell in memory? -/
def T.one : T → Bool
  | .undef | .ag _ | .tu _ | .fp | .ments .. => false
  | .cst v => v.oneCell'
  | _ => true
/-- Nothing of the store is in it, and it is one cell. -/
def T.pure1 : T → Bool
  | .int .. | .bool _ | .str _ | .ub | .nil | .sl .. => true
  | .cst v => v.oneCell'
  | _ => false
def fpHead : List T → Bool
  | .fp :: _ => true
  | _ => false
def meHead : List T → Bool
  | .ments .. :: _ => true
  | _ => false
def cellsOf : T → Option (List T)
  | .ag cs => match fpHead cs || meHead cs with
    | true => none
    | false => some cs
  | v => if v.one = true then some [v] else none
theorem cellsOf_head {v : T} {cs : List T} (h : cellsOf v = some cs) : fpHead cs = false := by
  cases v with
  | ag l =>
    simp only [cellsOf] at h
    split at h
    · cases h
    · rename_i e; injection h with h; subst h; rw [Bool.or_eq_false_iff] at e; exact e.1
  | _ =>
    simp only [cellsOf, Option.ite_none_right_eq_some, Option.some.injEq] at h
    obtain ⟨h1, rfl⟩ := h
    first | rfl | (simp [T.one] at h1)
theorem cellsOf_me {v : T} {cs : List T} (h : cellsOf v = some cs) : meHead cs = false := by
  cases v with
  | ag l =>
    simp only [cellsOf] at h
    split at h
    · cases h
    · rename_i e; injection h with h; subst h; rw [Bool.or_eq_false_iff] at e; exact e.2
  | _ =>
    simp only [cellsOf, Option.ite_none_right_eq_some, Option.some.injEq] at h
    obtain ⟨h1, rfl⟩ := h
    first | rfl | (simp [T.one] at h1)
/-- Of one kind? -/
def sameC : T → T → Bool
  | .int k _, .int k' _ => decide (k = k')
  | .bool _, .bool _ => true
  | .str _, .str _ => true
  | _, _ => false
/-- What a plain cell is. -/
def tv : T → Value
  | .int k n => .int k n
  | .bool b => .bool b
  | .str s => .string s
  | .cst v => v
  | _ => Go.undef
def unfp : T → T
  | .fp => .cst (.pointer none)
  | v => v
def fnT (f : FuncId) : T := match (ytab f).isNone with
  | true => .fn f [] []
  | false => .cst (.func (.func f) #[] #[])
def tcell : Value → T
  | .slice none 0 0 => .nil
  | .int k n => .int k n
  | .bool b => .bool b
  | .string s => .str s
  | .func (.func f) xs ys => if xs.isEmpty = true ∧ ys.isEmpty = true then fnT f else .cst (.func (.func f) xs ys)
  | v => .cst v
def tval : Value → T
  | .agg cs => if cs.toList.all (·.oneCell') = true then .ag (cs.toList.map tcell) else .cst (.agg cs)
  | v => tcell v
def ev (t : Tm) : Operand → T
  | .tmp i => get t i
  | .const v => tval v
  | .global g => .cst (.pointer (some ⟨g, 0, none⟩))
  | .func f => fnT f
/-- What says less. -/
inductive Wk : T → T → Prop where
  | refl (v : T) : Wk v v
  | sl (full : Bool) (e : El) (l : List (ty e)) : Wk (.sl full e l) (.sl false e l)
  | nil (e : El) : Wk .nil (.sl false e [])
def asKind {e e' : El} (h : e = e') (l : List (ty e)) : List (ty e') := h ▸ l
def gInt (k : IntKind) : T → Option Int
  | .int k' n => if k' = k then some n else none
  | _ => none
def gStr : T → Option ByteArray
  | .str s => some s
  | _ => none
def gBool : T → Option Bool
  | .bool b => some b
  | _ => none
def gSl (e : El) : T → Option (List (ty e))
  | .nil => some []
  | .sl _ e' l => if h : e' = e then some (asKind h l) else none
  | _ => none
theorem gInt_ok {k : IntKind} {c : T} {n : Int} (h : gInt k c = some n) : Wk c (.int k n) := by
  unfold gInt at h
  split at h
  · split at h
    · rename_i e; subst e; injection h with h; subst h; exact .refl _
    · cases h
  · cases h
theorem gStr_ok {c : T} {s : ByteArray} (h : gStr c = some s) : Wk c (.str s) := by
  unfold gStr at h
  split at h
  · injection h with h; subst h; exact .refl _
  · cases h
theorem gBool_ok {c : T} {s : Bool} (h : gBool c = some s) : Wk c (.bool s) := by
  unfold gBool at h
  split at h
  · injection h with h; subst h; exact .refl _
  · cases h
theorem gSl_ok {e : El} {c : T} {l : List (ty e)} (h : gSl e c = some l) : Wk c (.sl false e l) := by
  unfold gSl at h
  split at h
  · injection h with h; subst h; exact .nil e
  · split at h
    · rename_i he; subst he; injection h with h; subst h; exact .sl _ _ _
    · cases h
  · cases h
end Go.Proofs.YtoclmkbjgmgekaaDoor

/- The kinds of elements of this seat: their cells: printed by genkinds.py. -/
namespace Go.Proofs.YtoclmkbjgmgekaaDoor
set_option linter.unusedVariables false
set_option linter.unusedSimpArgs false
set_option linter.unusedSectionVars false
def sz : El → Nat
  | .str => 1
  | .u8 => 1
  | .dig => 32
  | .rng => 99
  | .sgn => 4
  | .msg => 12
  | .ment => 2
  | .sexp => 3
def WkL (cs us : List T) : Prop := cs.length = us.length ∧ ∀ (j : Nat) (u : T), us[j]? = some u → ∃ c, cs[j]? = some c ∧ Wk c u
theorem WkL.nil {cs : List T} (h : cs = []) : WkL cs [] := by subst h; exact ⟨rfl, fun j u h => by simp at h⟩
theorem WkL.same (cs : List T) : WkL cs cs := ⟨rfl, fun j u h => ⟨u, h, .refl u⟩⟩
theorem WkL.app {cs us vs : List T} (n : Nat) (hn : us.length = n) (h : WkL (cs.take n) us) (k : WkL (cs.drop n) vs) : WkL cs (us ++ vs) := by
  have hl : n ≤ cs.length := by
    have := h.1
    rw [hn, List.length_take] at this
    omega
  refine ⟨?_, fun j u hj => ?_⟩
  · have := k.1
    rw [List.length_drop] at this
    rw [List.length_append]; omega
  · by_cases hj' : j < n
    · rw [List.getElem?_append_left (by omega)] at hj
      obtain ⟨c, h1, h2⟩ := h.2 j u hj
      rw [List.getElem?_take_of_lt hj'] at h1
      exact ⟨c, h1, h2⟩
    · rw [List.getElem?_append_right (by omega), hn] at hj
      obtain ⟨c, h1, h2⟩ := k.2 _ u hj
      rw [List.getElem?_drop, show n + (j - n) = j by omega] at h1
      exact ⟨c, h1, h2⟩
def seg {α β : Type} (n : Nat) (d : List T → Option α) (cs : List T) (k : α → List T → Option β) : Option β := match d (cs.take n) with
  | some x => k x (cs.drop n)
  | none => none
theorem seg_some {α β : Type} {n : Nat} {d : List T → Option α} {cs : List T} {k : α → List T → Option β} {y : β} (h : seg n d cs k = some y) : ∃ x, d (cs.take n) = some x ∧ k x (cs.drop n) = some y := by
  unfold seg at h
  split at h
  · rename_i x hx; exact ⟨x, hx, h⟩
  · cases h
def fin {β : Type} (y : β) : List T → Option β
  | [] => some y
  | _ => none
theorem fin_some {β : Type} {x y : β} {cs : List T} (h : fin x cs = some y) : cs = [] ∧ x = y := by
  cases cs <;> simp [fin] at h
  exact ⟨rfl, h⟩
def d1 {α : Type} (g : T → Option α) : List T → Option α
  | [c] => g c
  | _ => none
theorem d1_ok {α : Type} {g : T → Option α} {v : α → T} (hg : ∀ c x, g c = some x → Wk c (v x)) {cs : List T} {x : α} (h : d1 g cs = some x) : WkL cs [v x] := by
  unfold d1 at h
  split at h
  · refine ⟨rfl, fun j u hj => ?_⟩
    cases j <;> simp at hj
    subst hj
    exact ⟨_, rfl, hg _ _ h⟩
  · cases h
def u8L : List T → Option (List Int)
  | [] => some []
  | .int .u8 n :: r => match u8L r with
    | some l => some (n :: l)
    | none => none
  | _ => none
theorem u8L_ok : ∀ {cs : List T} {l : List Int}, u8L cs = some l → cs = l.map (T.int .u8)
  | [], l, h => by simp [u8L] at h; subst h; rfl
  | c :: r, l, h => by
    unfold u8L at h
    split at h
    · rename_i e; cases e
    · rename_i m r' e
      cases e
      split at h
      · rename_i l' hl
        injection h with h
        subst h
        rw [u8L_ok hl]; rfl
      · cases h
    · cases h
def enc_dig (x : Dig) : List T := [.int .u8 x.b0, .int .u8 x.b1, .int .u8 x.b2, .int .u8 x.b3, .int .u8 x.b4, .int .u8 x.b5, .int .u8 x.b6, .int .u8 x.b7, .int .u8 x.b8, .int .u8 x.b9, .int .u8 x.b10, .int .u8 x.b11, .int .u8 x.b12, .int .u8 x.b13, .int .u8 x.b14, .int .u8 x.b15, .int .u8 x.b16, .int .u8 x.b17, .int .u8 x.b18, .int .u8 x.b19, .int .u8 x.b20, .int .u8 x.b21, .int .u8 x.b22, .int .u8 x.b23, .int .u8 x.b24, .int .u8 x.b25, .int .u8 x.b26, .int .u8 x.b27, .int .u8 x.b28, .int .u8 x.b29, .int .u8 x.b30, .int .u8 x.b31]
def mk_dig : List Int → Option Dig
  | [x0, x1, x2, x3, x4, x5, x6, x7, x8, x9, x10, x11, x12, x13, x14, x15, x16, x17, x18, x19, x20, x21, x22, x23, x24, x25, x26, x27, x28, x29, x30, x31] => some ⟨x0, x1, x2, x3, x4, x5, x6, x7, x8, x9, x10, x11, x12, x13, x14, x15, x16, x17, x18, x19, x20, x21, x22, x23, x24, x25, x26, x27, x28, x29, x30, x31⟩
  | _ => none
def dec_dig (cs : List T) : Option Dig := match u8L cs with
  | some l => mk_dig l
  | none => none
theorem mk_dig_ok {l : List Int} {x : Dig} (h : mk_dig l = some x) : l.map (T.int .u8) = enc_dig x := by
  unfold mk_dig at h
  split at h
  · injection h with h; subst h; rfl
  · cases h
theorem dec_dig_ok {cs : List T} {x : Dig} (h : dec_dig cs = some x) : WkL cs (enc_dig x) := by
  unfold dec_dig at h
  split at h
  · rename_i l hl
    rw [u8L_ok hl, mk_dig_ok h]
    exact WkL.same _
  · cases h
def enc_rng (x : Rng) : List T := enc_dig x.low ++ (enc_dig x.high ++ ([.bool x.listed] ++ ([.int .i64 x.count] ++ (enc_dig x.print ++ ([.sl false .dig x.ids] ++ [])))))
def dec_rng (cs : List T) : Option Rng :=
  seg 32 dec_dig cs fun x0 r0 =>
  seg 32 dec_dig r0 fun x1 r1 =>
  seg 1 (d1 (gBool)) r1 fun x2 r2 =>
  seg 1 (d1 (gInt .i64)) r2 fun x3 r3 =>
  seg 32 dec_dig r3 fun x4 r4 =>
  seg 1 (d1 (gSl .dig)) r4 fun x5 r5 =>
  fin ⟨x0, x1, x2, x3, x4, x5⟩ r5
theorem dec_rng_ok {cs : List T} {x : Rng} (h : dec_rng cs = some x) : WkL cs (enc_rng x) := by
  unfold dec_rng at h
  obtain ⟨x0, h0, h⟩ := seg_some h
  obtain ⟨x1, h1, h⟩ := seg_some h
  obtain ⟨x2, h2, h⟩ := seg_some h
  obtain ⟨x3, h3, h⟩ := seg_some h
  obtain ⟨x4, h4, h⟩ := seg_some h
  obtain ⟨x5, h5, h⟩ := seg_some h
  obtain ⟨hr, rfl⟩ := fin_some h
  exact WkL.app 32 rfl (dec_dig_ok h0) (WkL.app 32 rfl (dec_dig_ok h1) (WkL.app 1 rfl ((d1_ok fun c x h => gBool_ok h) h2) (WkL.app 1 rfl ((d1_ok fun c x h => gInt_ok h) h3) (WkL.app 32 rfl (dec_dig_ok h4) (WkL.app 1 rfl ((d1_ok fun c x h => gSl_ok h) h5) (WkL.nil hr))))))
def enc_sgn (x : Sgn) : List T := [.int .i64 x.index] ++ ([.sl false .dig x.revealed] ++ ([.sl false .dig x.others] ++ ([.sl false .dig x.path] ++ [])))
def dec_sgn (cs : List T) : Option Sgn :=
  seg 1 (d1 (gInt .i64)) cs fun x0 r0 =>
  seg 1 (d1 (gSl .dig)) r0 fun x1 r1 =>
  seg 1 (d1 (gSl .dig)) r1 fun x2 r2 =>
  seg 1 (d1 (gSl .dig)) r2 fun x3 r3 =>
  fin ⟨x0, x1, x2, x3⟩ r3
theorem dec_sgn_ok {cs : List T} {x : Sgn} (h : dec_sgn cs = some x) : WkL cs (enc_sgn x) := by
  unfold dec_sgn at h
  obtain ⟨x0, h0, h⟩ := seg_some h
  obtain ⟨x1, h1, h⟩ := seg_some h
  obtain ⟨x2, h2, h⟩ := seg_some h
  obtain ⟨x3, h3, h⟩ := seg_some h
  obtain ⟨hr, rfl⟩ := fin_some h
  exact WkL.app 1 rfl ((d1_ok fun c x h => gInt_ok h) h0) (WkL.app 1 rfl ((d1_ok fun c x h => gSl_ok h) h1) (WkL.app 1 rfl ((d1_ok fun c x h => gSl_ok h) h2) (WkL.app 1 rfl ((d1_ok fun c x h => gSl_ok h) h3) (WkL.nil hr))))
def enc_msg (x : Msg) : List T := [.int .i64 x.kind] ++ ([.str x.name] ++ ([.sl false .dig x.ids] ++ ([.sl false .rng x.ranges] ++ ([.sl false .str x.patches] ++ ([.sl false .str x.paths] ++ ([.int .i64 x.code] ++ ([.str x.text] ++ (enc_sgn x.sig ++ []))))))))
def dec_msg (cs : List T) : Option Msg :=
  seg 1 (d1 (gInt .i64)) cs fun x0 r0 =>
  seg 1 (d1 (gStr)) r0 fun x1 r1 =>
  seg 1 (d1 (gSl .dig)) r1 fun x2 r2 =>
  seg 1 (d1 (gSl .rng)) r2 fun x3 r3 =>
  seg 1 (d1 (gSl .str)) r3 fun x4 r4 =>
  seg 1 (d1 (gSl .str)) r4 fun x5 r5 =>
  seg 1 (d1 (gInt .i64)) r5 fun x6 r6 =>
  seg 1 (d1 (gStr)) r6 fun x7 r7 =>
  seg 4 dec_sgn r7 fun x8 r8 =>
  fin ⟨x0, x1, x2, x3, x4, x5, x6, x7, x8⟩ r8
theorem dec_msg_ok {cs : List T} {x : Msg} (h : dec_msg cs = some x) : WkL cs (enc_msg x) := by
  unfold dec_msg at h
  obtain ⟨x0, h0, h⟩ := seg_some h
  obtain ⟨x1, h1, h⟩ := seg_some h
  obtain ⟨x2, h2, h⟩ := seg_some h
  obtain ⟨x3, h3, h⟩ := seg_some h
  obtain ⟨x4, h4, h⟩ := seg_some h
  obtain ⟨x5, h5, h⟩ := seg_some h
  obtain ⟨x6, h6, h⟩ := seg_some h
  obtain ⟨x7, h7, h⟩ := seg_some h
  obtain ⟨x8, h8, h⟩ := seg_some h
  obtain ⟨hr, rfl⟩ := fin_some h
  exact WkL.app 1 rfl ((d1_ok fun c x h => gInt_ok h) h0) (WkL.app 1 rfl ((d1_ok fun c x h => gStr_ok h) h1) (WkL.app 1 rfl ((d1_ok fun c x h => gSl_ok h) h2) (WkL.app 1 rfl ((d1_ok fun c x h => gSl_ok h) h3) (WkL.app 1 rfl ((d1_ok fun c x h => gSl_ok h) h4) (WkL.app 1 rfl ((d1_ok fun c x h => gSl_ok h) h5) (WkL.app 1 rfl ((d1_ok fun c x h => gInt_ok h) h6) (WkL.app 1 rfl ((d1_ok fun c x h => gStr_ok h) h7) (WkL.app 4 rfl (dec_sgn_ok h8) (WkL.nil hr)))))))))
def enc : (e : El) → ty e → List T
  | .dig, x => enc_dig x
  | .rng, x => enc_rng x
  | .sgn, x => enc_sgn x
  | .msg, x => enc_msg x
  | .str, x => [.str x]
  | .u8, x => [.int .u8 x]
  | .ment, x => [.int .i64 x.key, .str x.val]
  | .sexp, x => [.bool x.isList, .str x.atom, .sl false .sexp x.list]
theorem enc_len (e : El) (x : ty e) : (enc e x).length = sz e := by cases e <;> rfl
theorem sz_pos (e : El) : 0 < sz e := by cases e <;> decide
theorem enc_pure (e : El) (x : ty e) : ∀ u ∈ enc e x, u.pure1 = true := by cases e <;> simp [enc, T.pure1, enc_dig, enc_rng, enc_sgn, enc_msg]
def dec : (e : El) → List T → Option (ty e)
  | .dig, cs => dec_dig cs
  | .rng, cs => dec_rng cs
  | .sgn, cs => dec_sgn cs
  | .msg, cs => dec_msg cs
  | .str, [c0] => gStr c0
  | .u8, [c0] => gInt .u8 c0
  | .ment, [c0, c1] => match gInt .i64 c0, gStr c1 with
    | some x0, some x1 => some ⟨x0, x1⟩
    | _, _ => none
  | .sexp, [c0, c1, c2] => match gBool c0, gStr c1, gSl .sexp c2 with
    | some x0, some x1, some x2 => some ⟨x0, x1, x2⟩
    | _, _, _ => none
  | _, _ => none
/-- The type of an array's block; the type, and how long, of a thing whose first pointer is known to be nil. -/
def elTy : El → TypeId → Bool
  | .u8, t => t == 5
  | _, _ => true
def freshTy : TypeId × Nat := (103, 2)
def cellW (cs : List T) (E : TypeId) (m : Nat) : Bool := match fpHead cs with
  | true => E == freshTy.1 && m == freshTy.2
  | false => true
theorem cellW_of {cs : List T} {E : TypeId} {m : Nat} (h : fpHead cs = false) : cellW cs E m = true := by unfold cellW; rw [h]
theorem cellW_if {cs cs' : List T} {E : TypeId} {m : Nat} (h : fpHead cs' = true → fpHead cs = true) (k : cellW cs E m = true) : cellW cs' E m = true := by
  unfold cellW at k ⊢
  cases h' : fpHead cs' with
  | false => rfl
  | true => rw [h h'] at k; exact k
def u8of : (e : El) → Option (List Int → List (ty e))
  | .u8 => some fun l => l
  | _ => none
def u8to : (e : El) → Option (List (ty e) → List Int)
  | .u8 => some fun l => l
  | _ => none
theorem u8of_ok {e : El} {f : List Int → List (ty e)} (h : u8of e = some f) (l : List Int) : (f l).map (enc e) = l.map fun n => [.int .u8 n] := by
  cases e <;> simp [u8of] at h
  subst h
  rfl
theorem u8to_ok {e : El} {f : List (ty e) → List Int} (h : u8to e = some f) (l : List (ty e)) : l.map (enc e) = (f l).map fun n => [T.int .u8 n] := by
  cases e <;> simp [u8to] at h
  subst h
  rfl
/-- What is laid in package variables: strconv's powers of ten. -/
def pow10s : List T := ((List.range 20).map fun i => ((10 ^ i : Nat) : Int)).map (T.int .u64)
def LaidG (ro : Nat → List T → Prop) : Prop := (ro 0 pow10s ∧ ro 0 [.tu [.int .i64 ((20 : Nat) : Int)]]) ∧ True
theorem LaidG.mono {ro ro' : Nat → List T → Prop} (h : ∀ b cs, ro b cs → ro' b cs) (k : LaidG ro) : LaidG ro' :=
  ⟨⟨h _ _ k.1.1, h _ _ k.1.2⟩, trivial⟩
/-- Maps: the kind of a map type's entries; how keys and values look. -/
def mapE : TypeId → Option El := fun t =>
  match Nat.beq t 62 with
  | true => some .ment
  | false =>
  none
def mapSh : El → Option (T × T)
  | .ment => some (.int .i64 0, .str ⟨#[]⟩)
  | _ => none
theorem mapSh_ok {e : El} {k v : T} (h : mapSh e = some (k, v)) (x : ty e) : ∃ kc vc, enc e x = [kc, vc] ∧ sameC k kc = true ∧ sameC v vc = true := by
  cases e <;> simp [mapSh] at h <;> obtain ⟨rfl, rfl⟩ := h <;> exact ⟨_, _, rfl, rfl, rfl⟩
theorem dec_wk (e : El) (cs : List T) (x : ty e) (h : dec e cs = some x) : cs.length = sz e ∧ ∀ (j : Nat) (u : T), (enc e x)[j]? = some u → ∃ c, cs[j]? = some c ∧ Wk c u := by
  cases e
  case str =>
    rcases cs with _ | ⟨c0, _ | ⟨c1, r⟩⟩ <;> simp only [dec, reduceCtorEq] at h
    refine ⟨rfl, fun j u hj => ?_⟩
    rcases j with _ | j <;> simp [enc] at hj
    subst hj; exact ⟨_, rfl, gStr_ok h⟩
  case u8 =>
    rcases cs with _ | ⟨c0, _ | ⟨c1, r⟩⟩ <;> simp only [dec, reduceCtorEq] at h
    refine ⟨rfl, fun j u hj => ?_⟩
    rcases j with _ | j <;> simp [enc] at hj
    subst hj; exact ⟨_, rfl, gInt_ok h⟩
  case dig =>
    have := dec_dig_ok h
    exact ⟨this.1, this.2⟩
  case rng =>
    have := dec_rng_ok h
    exact ⟨this.1, this.2⟩
  case sgn =>
    have := dec_sgn_ok h
    exact ⟨this.1, this.2⟩
  case msg =>
    have := dec_msg_ok h
    exact ⟨this.1, this.2⟩
  case ment =>
    rcases cs with _ | ⟨c0, _ | ⟨c1, _ | ⟨c2, r⟩⟩⟩ <;> simp only [dec, reduceCtorEq] at h
    split at h
    · rename_i x0 x1 h0 h1
      injection h with h
      subst h
      refine ⟨rfl, fun j u hj => ?_⟩
      rcases j with _ | _ | j <;> simp [enc] at hj <;> subst hj
      · exact ⟨_, rfl, gInt_ok h0⟩
      · exact ⟨_, rfl, gStr_ok h1⟩
    · cases h
  case sexp =>
    rcases cs with _ | ⟨c0, _ | ⟨c1, _ | ⟨c2, _ | ⟨c3, r⟩⟩⟩⟩ <;> simp only [dec, reduceCtorEq] at h
    split at h
    · rename_i x0 x1 x2 h0 h1 h2
      injection h with h
      subst h
      refine ⟨rfl, fun j u hj => ?_⟩
      rcases j with _ | _ | _ | j <;> simp [enc] at hj <;> subst hj
      · exact ⟨_, rfl, gBool_ok h0⟩
      · exact ⟨_, rfl, gStr_ok h1⟩
      · exact ⟨_, rfl, gSl_ok h2⟩
    · cases h
end Go.Proofs.YtoclmkbjgmgekaaDoor

/-
  The machine over typed values, 3: what values of the machine say of values in a world. No program in sight.
-/
namespace Go.Proofs.YtoclmkbjgmgekaaDoor
set_option linter.unusedVariables false
set_option linter.unusedSimpArgs false
set_option linter.unusedSectionVars false
open Go.RowKit
variable {P : Program}

def encs (e : El) (l : List (ty e)) : List T := (l.map (enc e)).flatten
theorem encs_nil {e : El} : encs e [] = [] := rfl
theorem encs_cons {e : El} {x : ty e} {l : List (ty e)} : encs e (x :: l) = enc e x ++ encs e l := rfl
theorem encs_append {e : El} {l m : List (ty e)} : encs e (l ++ m) = encs e l ++ encs e m := by simp [encs]
theorem encs_len {e : El} {l : List (ty e)} : (encs e l).length = l.length * sz e := by
  induction l with
  | nil => simp [encs]
  | cons x l ih => rw [encs_cons, List.length_append, enc_len, ih, List.length_cons, Nat.succ_mul, Nat.add_comm]
theorem encs_take {e : El} : ∀ {l : List (ty e)} {n : Nat}, (encs e l).take (n * sz e) = encs e (l.take n)
  | [], n => by simp [encs]
  | x :: l, 0 => by simp [encs]
  | x :: l, n + 1 => by
    rw [encs_cons, List.take_succ_cons, encs_cons, Nat.succ_mul, Nat.add_comm, List.take_append, enc_len]
    rw [List.take_of_length_le (by rw [enc_len]; omega), show sz e + n * sz e - sz e = n * sz e by omega, encs_take]
theorem encs_drop {e : El} : ∀ {l : List (ty e)} {n : Nat}, (encs e l).drop (n * sz e) = encs e (l.drop n)
  | [], n => by simp [encs]
  | x :: l, 0 => by simp
  | x :: l, n + 1 => by
    rw [encs_cons, List.drop_succ_cons, Nat.succ_mul, Nat.add_comm, List.drop_append, enc_len]
    rw [List.drop_of_length_le (by rw [enc_len]; omega), show sz e + n * sz e - sz e = n * sz e by omega, encs_drop, List.nil_append]
theorem encs_at {e : El} {l : List (ty e)} {i : Nat} {x : ty e} (h : l[i]? = some x) : ((encs e l).drop (i * sz e)).take (sz e) = enc e x := by
  rw [encs_drop]
  have := List.getElem?_eq_some_iff.1 h
  obtain ⟨hi, rfl⟩ := this
  rw [List.drop_eq_getElem_cons hi, encs_cons, List.take_left' (enc_len e _)]
theorem encs_get {e : El} {l : List (ty e)} {i j : Nat} {x : ty e} (h : l[i]? = some x) (hj : j < sz e) : (encs e l)[i * sz e + j]? = (enc e x)[j]? := by
  rw [← encs_at h, List.getElem?_take_of_lt hj, List.getElem?_drop]
theorem encs_pure {e : El} {l : List (ty e)} : ∀ u ∈ encs e l, u.pure1 = true := by
  intro u hu
  simp only [encs, List.mem_flatten, List.mem_map] at hu
  obtain ⟨_, ⟨x, _, rfl⟩, hu⟩ := hu
  exact enc_pure e x u hu

/-- Where an own array lies: block, length, capacity (0: nowhere). -/
structure OI where
  b : Nat
  len : Nat
  cap : Nat
/-- Which program a ghost is for. -/
inductive Ph (P : Program) : Prop where
  | mk
structure G (P : Program) where
  ph : Ph P
  ro : Nat → List T → Prop
  ob : Nat → Nat → Option OI
  fx : Nat → Loop → Prop
  dm : Nat → Prop

def roundAt (P : Program) (y : FuncId) : Option (Nat × Array Tmp × Code × Code) :=
  match ytab y with
  | some yi => rangeIn P yi.fn yi.key
  | none => none
/-- The record of a range over a function, between two rounds. -/
structure YRec (P : Program) (f : FuncId) (r : Loop) : Prop where
  ready : r.state = .ready
  none : r.pending = none
  code : roundAt P f = some (r.tmps.size, r.params, r.assign, r.body)
/-- The entries of a map, in a row. -/
def flatV (e : El) (l : List (ty e)) : Array Value := (l.flatMap fun x => (enc e x).map tv).toArray
inductive R (g : G P) : T → Value → Prop where
  | undef (x : Value) : R g .undef x
  | int (k : IntKind) (n : Int) : R g (.int k n) (.int k n)
  | bool (b : Bool) : R g (.bool b) (.bool b)
  | str (s : ByteArray) : R g (.str s) (.string s)
  | cst (v : Value) : R g (.cst v) v
  | ub (b : Bool) : R g .ub (.bool b)
  | fp : R g .fp (.pointer none)
  | mp (k : Nat) (oi : OI) : g.ob k 0 = some oi → R g (.mp k) (.map (some oi.b))
  | as (k n : Nat) (oi : OI) : g.ob k 0 = some oi → R g (.as k n) (.slice (some ⟨oi.b, 0, none⟩) n n)
  | me (e : El) (l : List (ty e)) : R g (.ments e l) (.iface 0 (.tuple (flatV e l)))
  | nil (A : Option Addr) : R g .nil (.slice A 0 0)
  | sl (full : Bool) (e : El) (l : List (ty e)) (A : Option Addr) (c : Nat) : l.length ≤ c → c ≤ maxLen → (full = true → c = l.length) →
      (l ≠ [] → ∃ b off cs, A = some ⟨b, off, none⟩ ∧ g.ro b cs ∧ (cs.drop off).take (l.length * sz e) = encs e l) → R g (.sl full e l) (.slice A l.length c)
  | oa (e : El) (k ver : Nat) (oi : OI) (A : Option Addr) : g.ob k ver = some oi → (oi.cap ≠ 0 → A = some ⟨oi.b, 0, none⟩) → oi.len ≤ oi.cap → oi.cap ≤ maxLen → R g (.oa e k ver) (.slice A oi.len oi.cap)
  | os (e : El) (k ver off n : Nat) (oi : OI) (A : Option Addr) (c : Nat) : g.ob k ver = some oi → off + n ≤ oi.len → (c ≠ 0 → A = some ⟨oi.b, off * sz e, none⟩) → oi.len ≤ off + c → c ≤ maxLen → oi.len ≤ oi.cap → R g (.os e k ver off n) (.slice A n c)
  | pt (k off : Nat) (oi : OI) : g.ob k 0 = some oi → R g (.pt k off) (.pointer (some ⟨oi.b, off, none⟩))
  | pe (e : El) (k ver i j : Nat) (oi : OI) : g.ob k ver = some oi → oi.cap ≠ 0 → R g (.pe e k ver i j) (.pointer (some ⟨oi.b, i * sz e + j, none⟩))
  | pr (e : El) (x : ty e) (j b off : Nat) (cs : List T) : g.ro b cs → (cs.drop off).take (sz e) = enc e x → R g (.pr e x j) (.pointer (some ⟨b, off + j, none⟩))
  | ag (cs : List T) (xs : Array Value) : cs.length = xs.size → (∀ (i : Nat) (c : T) (x : Value), cs[i]? = some c → xs[i]? = some x → R g c x) → (∀ (i : Nat) (x : Value), xs[i]? = some x → x.oneCell' = true) → R g (.ag cs) (.agg xs)
  | tu (cs : List T) (xs : Array Value) : cs.length = xs.size → (∀ (i : Nat) (c : T) (x : Value), cs[i]? = some c → xs[i]? = some x → R g c x) → R g (.tu cs) (.tuple xs)
  | fn (f : FuncId) (as bs : List T) (xs ys : Array Value) : (ytab f).isNone = true → as.length = xs.size → bs.length = ys.size → (∀ (i : Nat) (c : T) (x : Value), as[i]? = some c → xs[i]? = some x → R g c x) →
      (∀ (i : Nat) (c : T) (x : Value), bs[i]? = some c → ys[i]? = some x → R g c x) → R g (.fn f as bs) (.func (.func f) xs ys)
  | ic (t : TypeId) (v : T) (x : Value) : R g v x → R g (.ic t v) (.iface t x)
  | yl (f : FuncId) (us : List T) (yi : YI) (l : Nat) (r : Loop) : ytab f = some yi → g.fx l r → YRec P f r → us.length = yi.live.length →
      (∀ (i : Nat) (u : T) (d : Tmp), us[i]? = some u → yi.live[i]? = some d → R g u (r.tmps.getD d Go.undef)) → R g (.fn f [] us) (.func (.yield l) #[] #[])

/-- Later ghosts say more. -/
structure G.le (g g' : G P) : Prop where
  ro : ∀ b cs, g.ro b cs → g'.ro b cs
  ob : ∀ k v oi, g.ob k v = some oi → g'.ob k v = some oi
  fx : ∀ b o, g.fx b o → g'.fx b o
  dm : ∀ b, g.dm b → g'.dm b
theorem G.le_refl (g : G P) : g.le g := ⟨fun _ _ h => h, fun _ _ _ h => h, fun _ _ h => h, fun _ h => h⟩
theorem G.le.trans {g g' g'' : G P} (h : g.le g') (k : g'.le g'') : g.le g'' := ⟨fun b cs e => k.ro b cs (h.ro b cs e), fun i v oi e => k.ob i v oi (h.ob i v oi e), fun b o e => k.fx b o (h.fx b o e), fun b e => k.dm b (h.dm b e)⟩

/-- Later ghosts say more, and nothing new of places that are kept free. -/
structure GL (g : G P) (st : List (Option Ob)) (g' : G P) : Prop where
  le : g.le g'
  hid : ∀ (k u : Nat), st[k]? = some none → g'.ob k u = g.ob k u
theorem GL.refl (g : G P) (st : List (Option Ob)) : GL g st g := ⟨G.le_refl g, fun _ _ _ => rfl⟩
theorem R.mono {g g' : G P} {v : T} {x : Value} (h : R g v x) (hl : g.le g') : R g' v x := by
  induction h with
  | undef x => exact .undef x
  | int k n => exact .int k n
  | bool b => exact .bool b
  | str s => exact .str s
  | cst v => exact .cst v
  | ub b => exact .ub b
  | fp => exact .fp
  | mp k oi h1 => exact .mp k oi (hl.ob _ _ _ h1)
  | as k n oi h1 => exact .as k n oi (hl.ob _ _ _ h1)
  | me e l => exact .me e l
  | nil A => exact .nil A
  | sl full e l A c h1 h2 h3 h4 => exact .sl full e l A c h1 h2 h3 fun hne => by obtain ⟨b, off, cs, k1, k2, k3⟩ := h4 hne; exact ⟨b, off, cs, k1, hl.ro _ _ k2, k3⟩
  | oa e k ver oi A h1 h2 h3 h4 => exact .oa e k ver oi A (hl.ob _ _ _ h1) h2 h3 h4
  | os e k ver off n oi A c h1 h2 h3 h4 h5 h6 => exact .os e k ver off n oi A c (hl.ob _ _ _ h1) h2 h3 h4 h5 h6
  | pt k off oi h1 => exact .pt k off oi (hl.ob _ _ _ h1)
  | pe e k ver i j oi h1 h2 => exact .pe e k ver i j oi (hl.ob _ _ _ h1) h2
  | pr e x j b off cs h1 h2 => exact .pr e x j b off cs (hl.ro _ _ h1) h2
  | ag cs xs h1 _ h3 ih => exact .ag cs xs h1 ih h3
  | tu cs xs h1 _ ih => exact .tu cs xs h1 ih
  | fn f as bs xs ys h0 h1 h2 _ _ ih1 ih2 => exact .fn f as bs xs ys h0 h1 h2 ih1 ih2
  | ic t v x _ ih => exact .ic t v x ih
  | yl f us yi l r h1 h2 h3 h4 _ ih => exact .yl f us yi l r h1 (hl.fx _ _ h2) h3 h4 ih
/-- Values say the same under ghosts that differ in their marks alone. -/
theorem R.same {g g' : G P} {v : T} {x : Value} (h : R g v x) (hr : g.ro = g'.ro) (ho : g.ob = g'.ob) (hf : ∀ b o, g.fx b o → g'.fx b o) : R g' v x := by
  induction h with
  | undef x => exact .undef x
  | int k n => exact .int k n
  | bool b => exact .bool b
  | str s => exact .str s
  | cst v => exact .cst v
  | ub b => exact .ub b
  | fp => exact .fp
  | mp k oi h1 => exact .mp k oi (by rw [← ho]; exact h1)
  | as k n oi h1 => exact .as k n oi (by rw [← ho]; exact h1)
  | me e l => exact .me e l
  | nil A => exact .nil A
  | sl full e l A c h1 h2 h3 h4 => exact .sl full e l A c h1 h2 h3 (by rw [← hr]; exact h4)
  | oa e k ver oi A h1 h2 h3 h4 => exact .oa e k ver oi A (by rw [← ho]; exact h1) h2 h3 h4
  | os e k ver off n oi A c h1 h2 h3 h4 h5 h6 => exact .os e k ver off n oi A c (by rw [← ho]; exact h1) h2 h3 h4 h5 h6
  | pt k off oi h1 => exact .pt k off oi (by rw [← ho]; exact h1)
  | pe e k ver i j oi h1 h2 => exact .pe e k ver i j oi (by rw [← ho]; exact h1) h2
  | pr e x j b off cs h1 h2 => exact .pr e x j b off cs (by rw [← hr]; exact h1) h2
  | ag cs xs h1 _ h3 ih => exact .ag cs xs h1 ih h3
  | tu cs xs h1 _ ih => exact .tu cs xs h1 ih
  | fn f as bs xs ys h0 h1 h2 _ _ ih1 ih2 => exact .fn f as bs xs ys h0 h1 h2 ih1 ih2
  | ic t v x _ ih => exact .ic t v x ih
  | yl f us yi l r h1 h2 h3 h4 _ ih => exact .yl f us yi l r h1 (hf _ _ h2) h3 h4 ih
theorem R_fnT (g : G P) (f : FuncId) : R g (fnT f) (.func (.func f) #[] #[]) := by
  unfold fnT
  split
  · rename_i h; exact .fn f [] [] _ _ h rfl rfl (by simp) (by simp)
  · exact .cst _
theorem R.wk {g : G P} {v u : T} {x : Value} (h : R g v x) (hw : Wk v u) : R g u x := by
  cases hw with
  | refl => exact h
  | sl full e l =>
    cases h with
    | sl _ _ _ A c h1 h2 h3 h4 => exact .sl false e l A c h1 h2 (by simp) h4
  | nil e =>
    cases h with
    | nil A => exact .sl false e [] A 0 (Nat.le_refl _) (Nat.zero_le _) (by simp) (by simp)
theorem dec_ok (e : El) (cs : List T) (x : ty e) (h : dec e cs = some x) : cs.length = sz e ∧ ∀ (j : Nat) (u : T), (enc e x)[j]? = some u → ∃ c, cs[j]? = some c ∧ ∀ (g : G P) (z : Value), R g c z → R g u z := by
  obtain ⟨h1, h2⟩ := dec_wk e cs x h
  exact ⟨h1, fun j u hj => by obtain ⟨c, c1, c2⟩ := h2 j u hj; exact ⟨c, c1, fun g z hz => hz.wk c2⟩⟩
/-- What holds nothing of the store needs only the read-only blocks. -/
theorem R.pure {g g' : G P} {v : T} {x : Value} (h : R g v x) (hv : v.pure1 = true) (hl : ∀ b cs, g.ro b cs → g'.ro b cs) : R g' v x := by
  cases h with
  | sl full e l A c h1 h2 h3 h4 => exact .sl full e l A c h1 h2 h3 fun hne => by obtain ⟨b, off, cs, k1, k2, k3⟩ := h4 hne; exact ⟨b, off, cs, k1, hl _ _ k2, k3⟩
  | int k n => exact .int k n
  | bool b => exact .bool b
  | str s => exact .str s
  | cst => exact .cst x
  | ub b => exact .ub b
  | nil A => exact .nil A
  | _ => simp [T.pure1] at hv

/-- Cells of a block, as values of the machine. -/
structure Cells (g : G P) (cs : List T) (blk : Array Value) : Prop where
  le : cs.length ≤ blk.size
  at_ : ∀ (j : Nat) (u : T), cs[j]? = some u → ∃ x : Value, blk[j]? = some x ∧ x.oneCell' = true ∧ R g u x
theorem Cells.mono {g g' : G P} {cs : List T} {blk : Array Value} (h : Cells g cs blk) (hl : g.le g') : Cells g' cs blk :=
  ⟨h.le, fun j u hj => by obtain ⟨x, h1, h2, h3⟩ := h.at_ j u hj; exact ⟨x, h1, h2, h3.mono hl⟩⟩
theorem Cells.pure {g g' : G P} {cs : List T} {blk : Array Value} (h : Cells g cs blk) (hp : ∀ u ∈ cs, u.pure1 = true) (hl : ∀ b cs, g.ro b cs → g'.ro b cs) : Cells g' cs blk :=
  ⟨h.le, fun j u hj => by obtain ⟨x, h1, h2, h3⟩ := h.at_ j u hj; exact ⟨x, h1, h2, h3.pure (hp u (List.mem_of_getElem? hj)) hl⟩⟩

theorem Cells.same {g g' : G P} {cs : List T} {blk : Array Value} (h : Cells g cs blk) (hr : g.ro = g'.ro) (ho : g.ob = g'.ob) (hf : ∀ b o, g.fx b o → g'.fx b o) : Cells g' cs blk :=
  ⟨h.le, fun j u hj => by obtain ⟨x, h1, h2, h3⟩ := h.at_ j u hj; exact ⟨x, h1, h2, h3.same hr ho hf⟩⟩
/-- Cells of a block that is only read: of some of them nothing may be said. -/
structure CellsR (g : G P) (cs : List T) (blk : Array Value) : Prop where
  ex : ∀ n : Nat, cs = [.tu [.int .i64 (n : Int)]] → blk.size = n
  le : cs.length ≤ blk.size
  at_ : ∀ (j : Nat) (u : T), cs[j]? = some u → u.pure1 = true → ∃ x : Value, blk[j]? = some x ∧ x.oneCell' = true ∧ R g u x
theorem Cells.toR {g : G P} {cs : List T} {blk : Array Value} (h : Cells g cs blk) : CellsR g cs blk := ⟨fun n e => by
  subst e
  obtain ⟨x, _, h2, h3⟩ := h.at_ 0 _ rfl
  cases h3
  simp [Value.oneCell'] at h2, h.le, fun j u hj _ => h.at_ j u hj⟩
theorem CellsR.mono {g g' : G P} {cs : List T} {blk : Array Value} (h : CellsR g cs blk) (hl : g.le g') : CellsR g' cs blk :=
  ⟨h.ex, h.le, fun j u hj hp => by obtain ⟨x, h1, h2, h3⟩ := h.at_ j u hj hp; exact ⟨x, h1, h2, h3.mono hl⟩⟩
theorem CellsR.pure {g g' : G P} {cs : List T} {blk : Array Value} (h : CellsR g cs blk) (hl : ∀ b cs, g.ro b cs → g'.ro b cs) : CellsR g' cs blk :=
  ⟨h.ex, h.le, fun j u hj hp => by obtain ⟨x, h1, h2, h3⟩ := h.at_ j u hj hp; exact ⟨x, h1, h2, h3.pure hp hl⟩⟩

def obCells : Ob → List T
  | .cells cs => cs
  | .arr _ e l => encs e l
def obVer : Ob → Nat
  | .cells _ => 0
  | .arr ver _ _ => ver
def isArr : Ob → Bool
  | .cells _ => false
  | .arr .. => true
/-- The block of an object (an array without room has none). -/
def obBlk (g : G P) (k : Nat) (o : Ob) : Option Nat := match g.ob k (obVer o) with
  | some oi => if isArr o = true ∧ oi.cap = 0 then none else some oi.b
  | none => none
def Own (g : G P) (st : St) (b : Nat) : Prop := ∃ k o, st[k]? = some (some o) ∧ obBlk g k o = some b
/-- How long an array is, and what room it has. -/
def obFits (o : Ob) (oi : OI) : Prop := match o with
  | .cells _ => True
  | .arr _ _ l => oi.len = l.length ∧ oi.len ≤ oi.cap ∧ oi.cap ≤ maxLen
def obWide (o : Ob) (oi : OI) (E : TypeId) (m : Nat) : Prop := match o with
  | .cells cs => cellW cs E m = true
  | .arr _ e _ => oi.cap * sz e ≤ m ∧ elTy e E = true
/-- Is it a map? -/
def isMp : Ob → Bool
  | .cells cs => meHead cs
  | .arr .. => false
def mapCells (es : Array MapEntry) : Array Value := #[.iface 0 (.tuple (es.toList.flatMap fun e => [e.key, e.val]).toArray)]
/-- A map is looked at as a block of one cell. -/
def view (m : Bool) (o : Option Obj) : Option Obj := match m with
  | false => o
  | true => match o with
    | some (.map es _) => some (.cells (mapCells es) 0 (0, 0))
    | _ => none
theorem view_lt {m : Bool} {h : Array Obj} {b : Nat} {o : Obj} (hv : view m h[b]? = some o) : b < h.size := by
  rcases Nat.lt_or_ge b h.size with hl | hl
  · exact hl
  · rw [Array.getElem?_eq_none hl] at hv
    cases m <;> cases hv
theorem view_not {m : Bool} {x : Option Obj} {c : Array Value} {t : TypeId} {fr : Nat × Nat} (h : view m x = some (.cells c t fr)) : ∃ o, x = some o ∧ ∀ r, o ≠ .loop r := by
  cases x with
  | none => cases m <;> cases h
  | some o => exact ⟨o, rfl, fun r e => by subst e; cases m <;> cases h⟩
/-- What an object's block holds. -/
def obRow (g : G P) (w : World) (o : Ob) (oi : OI) : Prop := (isArr o = true ∧ oi.cap = 0) ∨ ((∀ cs0, ¬ g.ro oi.b cs0) ∧ ∃ (blk : Array Value) (E : TypeId) (fr : Nat × Nat), view (isMp o) w.heap[oi.b]? = some (.cells blk E fr) ∧ (∀ q, q < blk.size → ¬ (fr.1 ≤ q ∧ q < fr.2)) ∧
  Cells g (obCells o) blk ∧ obWide o oi E blk.size)

structure Good (g : G P) (st : St) (w : World) : Prop where
  ro : ∀ b cs, g.ro b cs → ∃ (blk : Array Value) (E : TypeId) (fr : Nat × Nat), w.heap[b]? = some (.cells blk E fr) ∧ CellsR g cs blk
  obj : ∀ k o, st[k]? = some (some o) → ∃ oi, g.ob k (obVer o) = some oi ∧ obFits o oi ∧ obRow g w o oi
  inj : ∀ k k' o o' b, st[k]? = some (some o) → st[k']? = some (some o') → obBlk g k o = some b → obBlk g k' o' = some b → k = k'
  old : ∀ k v oi, g.ob k v = some oi → k < st.length ∧ ∀ o, st[k]? = some (some o) → v ≤ obVer o
  fx : ∀ b o, g.fx b o → w.heap[b]? = some (.loop o)
  dm : ∀ b, g.dm b → w.heap[b]? = some (.deferred (some []))
  laid : LaidG g.ro

/-- What stays said of the first objects. -/
def Kept (g : G P) (st : St) (g' : G P) (st' : St) (k : Nat) : Prop := ∀ o, st[k]? = some (some o) → match o with
  | .cells cs => ∃ cs', st'[k]? = some (some (.cells cs')) ∧ cs'.length = cs.length ∧ g'.ob k 0 = g.ob k 0
  | .arr _ e _ => ∃ ver' l', st'[k]? = some (some (.arr ver' e l'))
/-- The first c arrays that nothing was appended to are what they were. -/
def Fixd (g : G P) (st : St) (g' : G P) (st' : St) (k : Nat) : Prop := ∀ ver e l, st[k]? = some (some (.arr ver e l)) → ∃ ver' l', st'[k]? = some (some (.arr ver' e l')) ∧ (ver' = 0 → ver = 0 ∧ g'.ob k 0 = g.ob k 0)
/-- Of the first b objects something stays said; of the first c more. -/
structure B0 where
  b : Nat
  c : Nat
structure Step (b0 : B0) (g : G P) (st : St) (w : World) (g' : G P) (st' : St) (w' : World) : Prop where
  os : w'.os = w.os
  tape : w'.tape = w.tape
  output : w'.output = w.output
  size : w.heap.size ≤ w'.heap.size
  block : ∀ b, b < w.heap.size → ¬ Own g st b → w'.heap[b]? = w.heap[b]?
  ro : ∀ b cs, g.ro b cs → g'.ro b cs
  own : ∀ b, Own g' st' b → Own g st b ∨ w.heap.size ≤ b
  new : ∀ b cs, g'.ro b cs → g.ro b cs ∨ Own g st b ∨ w.heap.size ≤ b
  kept : ∀ k, k < b0.b → Kept g st g' st' k
  fixd : ∀ k, k < b0.c → Fixd g st g' st' k
  fx : ∀ b o, g.fx b o → g'.fx b o
  dm : ∀ b, g.dm b → g'.dm b
  dmn : ∀ b, g'.dm b → g.dm b ∨ w.heap.size ≤ b

section
variable {g g' g'' : G P} {st st' st'' : St} {w w' w'' : World} {b0 : B0}
theorem Kept.refl {k : Nat} : Kept g st g st k := fun o ho => by
  cases o with
  | cells cs => exact ⟨cs, ho, rfl, rfl⟩
  | arr ver e l => exact ⟨ver, l, ho⟩
theorem Fixd.refl {k : Nat} : Fixd g st g st k := fun ver e l h => ⟨ver, l, h, fun e => ⟨e, rfl⟩⟩
theorem Step.refl : Step b0 g st w g st w :=
  ⟨rfl, rfl, rfl, Nat.le_refl _, fun _ _ _ => rfl, fun _ _ h => h, fun _ h => .inl h, fun _ _ h => .inl h, fun _ _ => Kept.refl, fun _ _ => Fixd.refl, fun _ _ h => h, fun _ h => h, fun _ h => .inl h⟩
theorem Step.trans (h : Step b0 g st w g' st' w') (k : Step b0 g' st' w' g'' st'' w'') : Step b0 g st w g'' st'' w'' := by
  refine ⟨k.os.trans h.os, k.tape.trans h.tape, k.output.trans h.output, Nat.le_trans h.size k.size, fun b hb hn => ?_, fun b cs e => k.ro b cs (h.ro b cs e), fun b hb => ?_, fun b cs e => ?_, fun i hi o ho => ?_, fun i hi ver e l ho => ?_, fun b o e => k.fx b o (h.fx b o e), fun b e => k.dm b (h.dm b e), fun b e => (k.dmn b e).elim (h.dmn b) fun e => .inr (Nat.le_trans h.size e)⟩
  · refine (k.block b (Nat.lt_of_lt_of_le hb h.size) fun ho => ?_).trans (h.block b hb hn)
    rcases h.own b ho with h1 | h1
    · exact hn h1
    · omega
  · rcases k.own b hb with h1 | h1
    · exact h.own b h1
    · exact .inr (Nat.le_trans h.size h1)
  · rcases k.new b cs e with h1 | h1 | h1
    · exact h.new b cs h1
    · rcases h.own b h1 with h2 | h2
      · exact .inr (.inl h2)
      · exact .inr (.inr h2)
    · exact .inr (.inr (Nat.le_trans h.size h1))
  · have h1 := h.kept i hi o ho
    cases o with
    | cells cs =>
      obtain ⟨cs', a1, a2, a3⟩ := h1
      obtain ⟨cs'', b1, b2, b3⟩ := k.kept i hi _ a1
      exact ⟨cs'', b1, b2.trans a2, b3.trans a3⟩
    | arr ver e l =>
      obtain ⟨ver', l', a1⟩ := h1
      exact k.kept i hi _ a1
  · obtain ⟨ver', l', a1, a2⟩ := h.fixd i hi ver e l ho
    obtain ⟨ver'', l'', b1, b2⟩ := k.fixd i hi _ _ _ a1
    refine ⟨ver'', l'', b1, fun e0 => ?_⟩
    obtain ⟨c1, c2⟩ := b2 e0
    obtain ⟨d1, d2⟩ := a2 c1
    exact ⟨d1, c2.trans d2⟩
theorem Step.le {c0 : B0} (h : Step b0 g st w g' st' w') (hb : c0.b ≤ b0.b) (hc : c0.c ≤ b0.c) : Step c0 g st w g' st' w' :=
  ⟨h.os, h.tape, h.output, h.size, h.block, h.ro, h.own, h.new, fun k hk => h.kept k (Nat.lt_of_lt_of_le hk hb), fun k hk => h.fixd k (Nat.lt_of_lt_of_le hk hc), h.fx, h.dm, h.dmn⟩

theorem Good.lt_ro (hg : Good g st w) {b : Nat} {cs : List T} (h : g.ro b cs) : b < w.heap.size := by
  obtain ⟨blk, E, fr, h1, _⟩ := hg.ro b cs h
  exact (Array.getElem?_eq_some_iff.1 h1).1
theorem Good.own (hg : Good g st w) {k : Nat} {o : Ob} {b : Nat} (h : st[k]? = some (some o)) (hb : obBlk g k o = some b) : ∃ oi, g.ob k (obVer o) = some oi ∧ oi.b = b ∧ obFits o oi ∧ (∀ cs0, ¬ g.ro b cs0) ∧ ∃ (blk : Array Value) (E : TypeId) (fr : Nat × Nat), view (isMp o) w.heap[b]? = some (.cells blk E fr) ∧ (∀ q, q < blk.size → ¬ (fr.1 ≤ q ∧ q < fr.2)) ∧
    Cells g (obCells o) blk ∧ obWide o oi E blk.size := by
  obtain ⟨oi, h1, h2, h3⟩ := hg.obj k o h
  unfold obBlk at hb
  rw [h1] at hb
  simp only at hb
  split at hb
  · cases hb
  · rename_i hn
    injection hb with hb
    subst hb
    rcases h3 with h3 | h3
    · exact absurd h3 hn
    · exact ⟨oi, h1, rfl, h2, h3.1, h3.2⟩
theorem Good.lt_own (hg : Good g st w) {b : Nat} (h : Own g st b) : b < w.heap.size := by
  obtain ⟨k, o, h1, h2⟩ := h
  obtain ⟨_, _, _, _, _, blk, E, fr, h3, _⟩ := hg.own h1 h2
  exact view_lt h3
theorem Good.own_ro (hg : Good g st w) {b : Nat} {cs : List T} (h : Own g st b) (hr : g.ro b cs) : False := by
  obtain ⟨k, o, h1, h2⟩ := h
  obtain ⟨_, _, _, _, h3, _⟩ := hg.own h1 h2
  exact h3 _ hr

/-- What a function has deferred before it comes here. -/
class Bd (P : Program) where
  bd : List Deferred
  fn : ∀ d ∈ bd, ∀ D, d ≠ { target := .collected D, args := #[] }
  strict : Bool
instance (priority := low) bdNone : Bd P := ⟨[], fun _ h => by simp at h, false⟩
/-- The temporaries. -/
structure RelT [Bd P] (g : G P) (n : Nat) (t : Tm) (a : Act) : Prop where
  size : a.tmps.size = n
  defers : ∃ ms, a.defers = ms ++ Bd.bd P ∧ (Bd.strict P = true → ms = []) ∧ ∀ d ∈ ms, ∃ D, d = { target := .collected D, args := #[] } ∧ g.dm D
  once : a.defers.Nodup
  val : ∀ i, R g (get t i) (a.tmps.getD i Go.undef)
theorem RelT.mono [Bd P] {n : Nat} {t : Tm} {a : Act} (h : RelT g n t a) (hl : g.le g') : RelT g' n t a := ⟨h.size, by obtain ⟨ms, k1, k0, k2⟩ := h.defers; exact ⟨ms, k1, k0, fun d hd => by obtain ⟨D, h1, h2⟩ := k2 d hd; exact ⟨D, h1, hl.dm _ h2⟩⟩, h.once, fun i => (h.val i).mono hl⟩
theorem RelT.put [Bd P] {n d : Nat} {t : Tm} {a : Act} {v : T} {x : Value} (h : RelT g n t a) (hd : d < n) (hv : R g v x) : RelT g n (put t d v) (a.put (some d) x) := by
  refine ⟨by simp [Act.put, h.size], h.defers, h.once, fun i => ?_⟩
  rw [get_put]
  by_cases e : i = d
  · subst e
    simp only [if_true, Act.put, Array.getD_eq_getD_getElem?, Array.getElem?_setIfInBounds]
    rw [if_pos (by rw [h.size]; exact hd)]
    exact hv
  · simp only [if_neg e, Act.put, Array.getD_eq_getD_getElem?, Array.getElem?_setIfInBounds]
    rw [if_neg (Ne.symm e)]
    simpa using h.val i

theorem Good.not_cells (hg : Good g st w) {b : Nat} {o : Obj} (h : w.heap[b]? = some o) (hn : ∀ m c t fr, view m (some o) ≠ some (.cells c t fr)) (ho : Own g st b) : False := by
  obtain ⟨k, o', k1, k2⟩ := ho
  obtain ⟨_, _, _, _, _, blk, E, fr, h3, _⟩ := hg.own k1 k2
  rw [h] at h3
  exact hn _ _ _ _ h3
theorem Good.fx_keep (hg : Good g st w) (hs : ∀ b, b < w.heap.size → ¬ Own g st b → w'.heap[b]? = w.heap[b]?) {b : Nat} {o : Loop} (h : g.fx b o) : w'.heap[b]? = some (.loop o) := by
  have h1 := hg.fx b o h
  rw [hs b (Array.getElem?_eq_some_iff.1 h1).1 fun ho => hg.not_cells h1 (by intro m; cases m <;> simp [view]) ho]
  exact h1
theorem Good.dm_keep (hg : Good g st w) (hs : ∀ b, b < w.heap.size → ¬ Own g st b → w'.heap[b]? = w.heap[b]?) {b : Nat} (h : g.dm b) : w'.heap[b]? = some (.deferred (some [])) := by
  have h1 := hg.dm b h
  rw [hs b (Array.getElem?_eq_some_iff.1 h1).1 fun ho => hg.not_cells h1 (by intro m; cases m <;> simp [view]) ho]
  exact h1
/-- A new read-only block. -/
theorem good_ro (hg : Good g st w) {cs : List T} {blk : Array Value} {E : TypeId} (hc : Cells g cs blk) (hw : w'.heap = w.heap.push (.cells blk E)) (hos : w'.os = w.os) (htape : w'.tape = w.tape) (hout : w'.output = w.output) :
    Good { g with ro := fun b cs0 => (b = w.heap.size ∧ cs0 = cs) ∨ g.ro b cs0 } st w' ∧ (∀ b0, Step b0 g st w { g with ro := fun b cs0 => (b = w.heap.size ∧ cs0 = cs) ∨ g.ro b cs0 } st w') ∧ g.le { g with ro := fun b cs0 => (b = w.heap.size ∧ cs0 = cs) ∨ g.ro b cs0 } := by
  have hro : ∀ b cs', g.ro b cs' → (b = w.heap.size ∧ cs' = cs) ∨ g.ro b cs' := fun b cs' h => .inr h
  have hle : g.le { g with ro := fun b cs0 => (b = w.heap.size ∧ cs0 = cs) ∨ g.ro b cs0 } := ⟨hro, fun _ _ _ h => h, fun _ _ h => h, fun _ h => h⟩
  have hblk : ∀ b, b < w.heap.size → w'.heap[b]? = w.heap[b]? := fun b hb => by rw [hw]; simp [Array.getElem?_push, Nat.ne_of_lt hb]
  have hsz : w.heap.size ≤ w'.heap.size := by rw [hw]; simp
  refine ⟨⟨fun b cs' h => ?_, fun k o h => ?_, fun k k' o o' b h1 h2 h3 h4 => hg.inj k k' o o' b h1 h2 h3 h4, hg.old, fun b o h => hg.fx_keep (fun b hb _ => hblk b hb) h, fun b h => hg.dm_keep (fun b hb _ => hblk b hb) h, LaidG.mono hro hg.laid⟩, fun b0 => ⟨hos, htape, hout, hsz, fun b hb _ => hblk b hb, hro, fun b h => .inl h, fun b cs' h => ?_, fun k _ => Kept.refl, fun k _ => Fixd.refl, fun _ _ h => h, fun _ h => h, fun _ h => .inl h⟩, hle⟩
  · rcases h with ⟨rfl, rfl⟩ | h
    · exact ⟨blk, E, (0, 0), by rw [hw]; simp, (hc.mono hle).toR⟩
    · obtain ⟨blk', E', fr, h1, h2⟩ := hg.ro b cs' h
      exact ⟨blk', E', fr, by rw [hblk b (hg.lt_ro h)]; exact h1, h2.mono hle⟩
  · obtain ⟨oi, h1, h2, h3⟩ := hg.obj k o h
    refine ⟨oi, h1, h2, ?_⟩
    rcases h3 with h3 | ⟨h3, blk', E', fr, h4, h5, h6, h7⟩
    · exact .inl h3
    · have hlt := view_lt h4
      exact .inr ⟨fun cs0 h0 => by
        rcases h0 with ⟨h0, _⟩ | h0
        · omega
        · exact h3 _ h0, blk', E', fr, by rw [hblk _ hlt]; exact h4, h5, h6.mono hle, h7⟩
  · rcases h with ⟨h, _⟩ | h
    · exact .inr (.inr (by omega))
    · exact .inl h

def G.set (g : G P) (k v : Nat) (oi : OI) : G P := { g with ob := fun i u => if i = k ∧ u = v then some oi else g.ob i u }
def keptOb (g : G P) (k : Nat) (oi : OI) (o' : Ob) : Ob → Prop
  | .cells cs => ∃ cs', o' = .cells cs' ∧ cs'.length = cs.length ∧ g.ob k 0 = some oi
  | .arr _ e _ => ∃ ver' l', o' = .arr ver' e l'
theorem set_hid {g : G P} {st : St} {k v : Nat} {oi : OI} (h : (∃ o, st[k]? = some (some o)) ∨ k = st.length) : ∀ (k' u : Nat), st[k']? = some none → (g.set k v oi).ob k' u = g.ob k' u := by
  intro k' u hk
  simp only [G.set]
  rw [if_neg]
  rintro ⟨rfl, _⟩
  rcases h with ⟨o, h⟩ | h
  · rw [h] at hk; cases hk
  · have := (List.getElem?_eq_some_iff.1 hk).1; omega
/-- An object is made, or turned: in place, or in a block of its own. -/
theorem good_put (hg : Good g st w) {k v : Nat} {o' : Ob} {oi : OI} (hst : ∀ i, st'[i]? = if i = k then some (some o') else st[i]?) (hk : k ≤ st.length) (hl : st.length ≤ st'.length) (hv : obVer o' = v)
    (hnew : g.ob k v = none ∨ g.ob k v = some oi) (hver : ∀ u oi, g.ob k u = some oi → u ≤ v) (hfit : obFits o' oi)
    (hb : ¬ (isArr o' = true ∧ oi.cap = 0) → w.heap.size ≤ oi.b ∨ ∃ o, st[k]? = some (some o) ∧ obBlk g k o = some oi.b)
    (hos : w'.os = w.os) (htape : w'.tape = w.tape) (hout : w'.output = w.output) (hsz : w.heap.size ≤ w'.heap.size)
    (hfr : ∀ b, b < w.heap.size → (∀ o, st[k]? = some (some o) → obBlk g k o ≠ some b) → w'.heap[b]? = w.heap[b]?)
    (hrow : ¬ (isArr o' = true ∧ oi.cap = 0) → ∃ (blk : Array Value) (E : TypeId) (fr : Nat × Nat), view (isMp o') w'.heap[oi.b]? = some (.cells blk E fr) ∧ (∀ q, q < blk.size → ¬ (fr.1 ≤ q ∧ q < fr.2)) ∧
      Cells g (obCells o') blk ∧ obWide o' oi E blk.size)
    (hkept : ∀ o, st[k]? = some (some o) → keptOb g k oi o' o) :
    Good (g.set k v oi) st' w' ∧ (∀ b0, Step b0 g st w (g.set k v oi) st' w') ∧ g.le (g.set k v oi) := by
  have hle : g.le (g.set k v oi) := ⟨fun _ _ h => h, fun i u oi' h => by
    simp only [G.set]
    split
    · rename_i e
      obtain ⟨rfl, rfl⟩ := e
      rcases hnew with e | e
      · rw [e] at h; cases h
      · rw [← e]; exact h
    · exact h, fun _ _ h => h, fun _ h => h⟩
  have hob : (g.set k v oi).ob k v = some oi := by simp [G.set]
  have hother : ∀ i u, i ≠ k → (g.set k v oi).ob i u = g.ob i u := fun i u h => by simp [G.set, h]
  have hblkk : obBlk (g.set k v oi) k o' = if isArr o' = true ∧ oi.cap = 0 then none else some oi.b := by
    unfold obBlk; rw [hv, hob]
  have hblko : ∀ i o, i ≠ k → obBlk (g.set k v oi) i o = obBlk g i o := fun i o h => by unfold obBlk; rw [hother i _ h]
  have hS : ∀ b, b < w.heap.size → ¬ (∃ o, st[k]? = some (some o) ∧ obBlk g k o = some b) → w'.heap[b]? = w.heap[b]? := fun b hb' hn => hfr b hb' fun o h1 h2 => hn ⟨o, h1, h2⟩
  have hown : ∀ b, Own (g.set k v oi) st' b → Own g st b ∨ w.heap.size ≤ b := by
    rintro b ⟨i, o, h1, h2⟩
    rw [hst] at h1
    split at h1
    · rename_i e
      subst e
      simp only [Option.some.injEq] at h1
      subst h1
      rw [hblkk] at h2
      split at h2
      · cases h2
      · rename_i hn
        injection h2 with h2
        subst h2
        rcases hb hn with h3 | ⟨o, h3, h4⟩
        · exact .inr h3
        · exact .inl ⟨i, o, h3, h4⟩
    · rename_i e
      rw [hblko i o e] at h2
      exact .inl ⟨i, o, h1, h2⟩
  refine ⟨⟨fun b cs h => ?_, fun i o h => ?_, fun i i' o1 o2 b h1 h2 h3 h4 => ?_, fun i u oi' h => ?_, fun b o h => hg.fx_keep (fun b hb hn => hS b hb fun ⟨o2, h3, h4⟩ => hn ⟨k, o2, h3, h4⟩) h, fun b h => hg.dm_keep (fun b hb hn => hS b hb fun ⟨o2, h3, h4⟩ => hn ⟨k, o2, h3, h4⟩) h, hg.laid⟩, fun b0 => ⟨hos, htape, hout, hsz, fun b hb' hn => hS b hb' fun ⟨o, h1, h2⟩ => hn ⟨k, o, h1, h2⟩, fun _ _ h => h, hown, fun _ _ h => .inl h, fun i _ o ho => ?_, fun i _ ver e l ho => ?_, fun _ _ h => h, fun _ h => h, fun _ h => .inl h⟩, hle⟩
  · obtain ⟨blk, E, fr, h1, h2⟩ := hg.ro b cs h
    refine ⟨blk, E, fr, ?_, h2.mono hle⟩
    rw [hS b (hg.lt_ro h) fun ⟨o, h3, h4⟩ => hg.own_ro ⟨k, o, h3, h4⟩ h]
    exact h1
  · rw [hst] at h
    split at h
    · rename_i e
      subst e
      simp only [Option.some.injEq] at h
      subst h
      refine ⟨oi, by rw [hv]; exact hob, hfit, ?_⟩
      by_cases hn : isArr o' = true ∧ oi.cap = 0
      · exact .inl hn
      · obtain ⟨blk, E, fr, h1, h2, h3, h4⟩ := hrow hn
        refine .inr ⟨?_, blk, E, fr, h1, h2, h3.mono hle, h4⟩
        show (∀ cs0, ¬ g.ro oi.b cs0)
        rcases hb hn with h5 | ⟨o, h5, h6⟩
        · intro cs hr
          have := hg.lt_ro hr; omega
        · intro cs hr
          exact (hg.own_ro ⟨i, o, h5, h6⟩ hr).elim
    · rename_i e
      obtain ⟨oi', h1, h2, h3⟩ := hg.obj i o h
      refine ⟨oi', by rw [hother i _ e]; exact h1, h2, ?_⟩
      rcases h3 with h3 | ⟨h3, blk, E, fr, h4, h5, h6, h7⟩
      · exact .inl h3
      · by_cases hn : isArr o = true ∧ oi'.cap = 0
        · exact .inl hn
        have hlt := view_lt h4
        refine .inr ⟨h3, blk, E, fr, ?_, h5, h6.mono hle, h7⟩
        rw [hS _ hlt fun ⟨o2, h8, h9⟩ => e (hg.inj i k o o2 oi'.b h h8 (by unfold obBlk; rw [h1]; simp only; rw [if_neg hn]) h9)]
        exact h4
  · rw [hst] at h1 h2
    by_cases e1 : i = k <;> by_cases e2 : i' = k
    · rw [e1, e2]
    · exfalso
      subst e1
      simp only [if_true, Option.some.injEq] at h1
      subst h1
      rw [if_neg e2] at h2
      rw [hblko i' o2 e2] at h4
      rw [hblkk] at h3
      split at h3
      · cases h3
      · rename_i hn
        injection h3 with h3
        subst h3
        rcases hb hn with h5 | ⟨o, h5, h6⟩
        · have := hg.lt_own ⟨i', o2, h2, h4⟩; omega
        · exact e2 (hg.inj i' i o2 o _ h2 h5 h4 h6)
    · exfalso
      subst e2
      simp only [if_true, Option.some.injEq] at h2
      subst h2
      rw [if_neg e1] at h1
      rw [hblko i o1 e1] at h3
      rw [hblkk] at h4
      split at h4
      · cases h4
      · rename_i hn
        injection h4 with h4
        subst h4
        rcases hb hn with h5 | ⟨o, h5, h6⟩
        · have := hg.lt_own ⟨i, o1, h1, h3⟩; omega
        · exact e1 (hg.inj i i' o1 o _ h1 h5 h3 h6)
    · rw [if_neg e1] at h1
      rw [if_neg e2] at h2
      rw [hblko i o1 e1] at h3
      rw [hblko i' o2 e2] at h4
      exact hg.inj i i' o1 o2 b h1 h2 h3 h4
  · have hkl : k < st'.length := by
      have := hst k
      rw [if_pos rfl] at this
      exact (List.getElem?_eq_some_iff.1 this).1
    by_cases e : i = k
    · subst e
      refine ⟨hkl, fun o ho => ?_⟩
      rw [hst, if_pos rfl] at ho
      simp only [Option.some.injEq] at ho
      subst ho
      rw [hv]
      simp only [G.set] at h
      split at h
      · rename_i e2; omega
      · exact hver u oi' h
    · rw [hother i u e] at h
      obtain ⟨h1, h2⟩ := hg.old i u oi' h
      refine ⟨by omega, fun o ho => ?_⟩
      rw [hst, if_neg e] at ho
      exact h2 o ho
  · by_cases e : i = k
    · subst e
      have := hkept o ho
      cases o with
      | cells cs =>
        obtain ⟨cs', rfl, h1, h2⟩ := this
        exact ⟨cs', by rw [hst, if_pos rfl], h1, by rw [h2]; simp only [obVer] at hv; subst hv; exact hob⟩
      | arr ver e l =>
        obtain ⟨ver', l', rfl⟩ := this
        exact ⟨ver', l', by rw [hst, if_pos rfl]⟩
    · cases o with
      | cells cs => exact ⟨cs, by rw [hst, if_neg e]; exact ho, rfl, hother i 0 e⟩
      | arr ver e' l => exact ⟨ver, l, by rw [hst, if_neg e]; exact ho⟩
  · by_cases e1 : i = k
    · subst e1
      obtain ⟨ver', l', rfl⟩ : ∃ ver' l', o' = .arr ver' e l' := hkept _ ho
      refine ⟨ver', l', by rw [hst, if_pos rfl], fun e0 => ?_⟩
      simp only [obVer] at hv
      obtain ⟨oi0, h1, _⟩ := hg.obj i _ ho
      simp only [obVer] at h1
      have := hver _ _ h1
      have h0 : ver = 0 := by omega
      subst h0
      refine ⟨rfl, ?_⟩
      have hv0 : v = 0 := by omega
      subst hv0
      rcases hnew with hn | hn
      · rw [hn] at h1; cases h1
      · rw [hob, hn]
    · exact ⟨ver, l, by rw [hst, if_neg e1]; exact ho, fun e0 => ⟨e0, hother i 0 e1⟩⟩
/-- Nothing but the count of what was drawn has turned. -/
theorem good_drew (hg : Good g st w) {n : Nat} : Good g st { w with drawn := n } ∧ ∀ b0, Step b0 g st w g st { w with drawn := n } :=
  ⟨⟨hg.ro, hg.obj, hg.inj, hg.old, hg.fx, hg.dm, hg.laid⟩, fun _ => ⟨rfl, rfl, rfl, Nat.le_refl _, fun _ _ _ => rfl, fun _ _ h => h, fun _ h => .inl h, fun _ _ h => .inl h, fun _ _ => Kept.refl, fun _ _ => Fixd.refl, fun _ _ h => h, fun _ h => h, fun _ h => .inl h⟩⟩
end
end Go.Proofs.YtoclmkbjgmgekaaDoor

/-
  The machine over typed values, 4: what each operation does. No program in sight.
-/
namespace Go.Proofs.YtoclmkbjgmgekaaDoor
set_option linter.unusedVariables false
set_option linter.unusedSimpArgs false
set_option linter.unusedSectionVars false
open Go.RowKit

/-! ### Types -/
inductive Srt where
  | slice (e : TypeId)
  | array (n : Nat) (e : TypeId)
  | struct (fs : List (Nat × TypeId))
  | string
  | int (k : IntKind)
  | bool
  | iface
  | map (k e : TypeId)
  | other
/-- Is it known to be no interface? -/
def conc : Srt → Bool
  | .iface => false
  | .other => false
  | _ => true
/-- What the machine knows of a type. eqs: the leaves of a struct that can be compared. -/
structure TI where
  agg : Bool
  size : Nat
  bytes : Nat
  srt : Srt
  zero : Option (List T)
  el : Option El
  eqs : Option (List Nat)
abbrev TD := List (Nat × TI)
def tyOf : TD → TypeId → Option TI
  | [], _ => none
  | (j, x) :: r, t => if t = j then some x else tyOf r t

/-! ### Words of the printed texts -/
def atI {α : Type} (l : List α) (i : Nat) (K : α → Prop) : Prop := ∃ x, l[i]? = some x ∧ K x
def At {α : Type} (l : List α) (i : Int) (K : α → Prop) : Prop := 0 ≤ i ∧ atI l i.toNat K
def StrAt (s : ByteArray) (i : Int) (K : Int → Prop) : Prop := 0 ≤ i ∧ ∃ b : UInt8, s[i.toNat]? = some b ∧ K (b.toNat : Int)
def Room (n bytes : Nat) (A : Prop) : Prop := n * bytes ≤ 140737488355328 ∧ A
def Need (c A : Prop) : Prop := c ∧ A
def strB (s : ByteArray) : List Int := s.data.toList.map fun b => (b.toNat : Int)
def bStr (l : List Int) : ByteArray := ⟨(l.map fun n => UInt8.ofNat n.toNat).toArray⟩

/-- What a function comes to that may panic: a result, or what it panics with. -/
inductive Res (α β : Type) where
  | ok (a : α)
  | err (e : β)
def Res.go {α β : Type} (o : Res α β) (K : α → Prop) (X : β → Prop) : Prop := match o with
  | .ok a => K a
  | .err e => X e
abbrev Kn := T → St → Prop
def splice (cs : List T) (o : Nat) (xs : List T) : List T := cs.take o ++ (xs ++ cs.drop (o + xs.length))
def subRow (agg : Bool) (size : Nat) (cs : List T) (off : Nat) (K : T → Prop) : Prop :=
  match agg with
  | true => match decide (off + size ≤ cs.length) with
    | true => K (.ag ((cs.drop off).take size))
    | false => False
  | false => match cs[off]? with
    | some u => K u
    | none => False
/-- The list of an own array, if the reference is to what it is now. -/
def arrOf (s : St) (e : El) (k ver : Nat) : Option (List (ty e)) :=
  match rd s k with
  | some (.arr v e' l) => if h : e' = e then if v = ver then some (asKind h l) else none else none
  | _ => none
def dload (ti : TI) (s : St) (a : T) (K : T → Prop) : Prop :=
  match a with
  | .pt k off => match rd s k with
    | some (.cells cs) => match meHead cs with
      | false => subRow ti.agg ti.size cs off K
      | true => False
    | _ => False
  | .pr e x j => subRow ti.agg ti.size (enc e x) j K
  | .pe e k ver i j => match arrOf s e k ver with
    | some l => atI l i fun x => subRow ti.agg ti.size (enc e x) j K
    | none => False
  | _ => False
def dstore (ti : TI) (s : St) (a v : T) (K : St → Prop) : Prop :=
  match cellsOf v with
  | some xs => match decide (xs.length = ti.size) with
    | true => match a with
      | .pt k off => match rd s k with
        | some (.cells cs) => match !meHead cs && decide (off + xs.length ≤ cs.length) with
          | true => K (s.set k (some (.cells (splice cs off xs))))
          | false => False
        | _ => False
      | .pe e k ver i j => match arrOf s e k ver with
        | some l => atI l i fun x => match decide (j + xs.length ≤ sz e) with
          | true => match dec e (splice (enc e x) j xs) with
            | some y => K (s.set k (some (.arr ver e (l.set i y))))
            | none => False
          | false => False
        | none => False
      | _ => False
    | false => False
  | none => False
def fillT (place : Nat → Option (Nat × Nat)) (cells : List T) : List (Nat × T) → Option (List T)
  | [] => some cells
  | (i, v) :: r => match place i, cellsOf v with
    | some (off, size), some xs => match decide (xs.length = size ∧ off + size ≤ cells.length) with
      | true => fillT place (splice cells off xs) r
      | false => none
    | _, _ => none
def sizeT (D : TD) (t : TypeId) : Option Nat := (tyOf D t).map (·.size)
def placesT (D : TD) (s : Srt) : Option (Nat → Option (Nat × Nat)) :=
  match s with
  | .struct fs => some fun i => match fs[i]? with
    | some (off, t) => match tyOf D t with
      | some ti => some (off, ti.size)
      | none => none
    | none => none
  | .array _ e => match tyOf D e with
    | some ti => some fun k => some (k * ti.size, ti.size)
    | none => none
  | _ => none
def decs (e : El) : Nat → List T → Option (List (ty e))
  | 0, _ => some []
  | n + 1, cs => match dec e (cs.take (sz e)), decs e n (cs.drop (sz e)) with
    | some x, some l => some (x :: l)
    | _, _ => none
/-- The elements that a slice holds, and their number. -/
def elems (s : St) (e : El) (v : T) (K : List (ty e) → Prop) : Prop :=
  match v with
  | .nil => K []
  | .sl _ e' l => if h : e' = e then K (asKind h l) else False
  | .oa e' k ver => if e' = e then match arrOf s e k ver with
    | some l => K l
    | none => False else False
  | .os e' k ver off n => if e' = e then match arrOf s e k ver with
    | some l => K ((l.drop off).take n)
    | none => False else False
  | _ => False
def lenT (s : St) (v : T) (K : Nat → Prop) : Prop :=
  match v with
  | .nil => K 0
  | .sl _ _ l => K l.length
  | .oa e k ver => match arrOf s e k ver with
    | some l => K l.length
    | none => False
  | .os _ _ _ _ n => K n
  | _ => False
def asInt (v : T) (K : Int → Prop) : Prop :=
  match v with
  | .int _ n => K n
  | _ => False
def optInt (v : Option T) (d : Int) (K : Int → Prop) : Prop :=
  match v with
  | some v => asInt v K
  | none => K d
def dsliceS (b : ByteArray) (lo hi : Option T) (K : T → Prop) : Prop :=
  optInt hi (b.size : Int) fun h => optInt lo 0 fun l => 0 ≤ l ∧ l ≤ h ∧ h ≤ (b.size : Int) ∧ K (.str (b.extract l.toNat h.toNat))
def dslice (e0 : El) (s : St) (x : T) (lo hi mx : Option T) (K : T → Prop) : Prop :=
  match mx with
  | some m => match hi with
    | some h => match x with
      | .sl _ e xs => if e0 = e then asInt m fun m => optInt lo 0 fun l => asInt h fun h => 0 ≤ l ∧ l ≤ h ∧ h = m ∧ m ≤ (xs.length : Int) ∧ K (.sl true e ((xs.take h.toNat).drop l.toNat)) else False
      | .nil => asInt m fun m => optInt lo 0 fun l => asInt h fun h => l = 0 ∧ h = 0 ∧ m = 0 ∧ K .nil
      | _ => False
    | none => False
  | none => match x with
    | .sl full e xs => if e0 = e then match hi with
      | some h => asInt h fun h => optInt lo 0 fun l => 0 ≤ l ∧ l ≤ h ∧ h ≤ (xs.length : Int) ∧ match full with
        | true => bif decide (h = (xs.length : Int)) then K (.sl true e ((xs.take h.toNat).drop l.toNat)) else K (.sl false e ((xs.take h.toNat).drop l.toNat))
        | false => K (.sl false e ((xs.take h.toNat).drop l.toNat))
      | none => optInt lo 0 fun l => 0 ≤ l ∧ l ≤ (xs.length : Int) ∧ K (.sl full e (xs.drop l.toNat)) else False
    | .nil => optInt hi 0 fun h => optInt lo 0 fun l => l = 0 ∧ h = 0 ∧ K .nil
    | .oa e k ver => if e0 = e then match arrOf s e k ver with
      | some xs => optInt hi (xs.length : Int) fun h => optInt lo 0 fun l => 0 ≤ l ∧ l ≤ h ∧ h ≤ (xs.length : Int) ∧ K (.os e k ver l.toNat (h.toNat - l.toNat))
      | none => False else False
    | .os e k ver off n => if e0 = e then match arrOf s e k ver with
      | some xs => optInt hi (n : Int) fun h => optInt lo 0 fun l => 0 ≤ l ∧ l ≤ h ∧ (off : Int) + h ≤ (xs.length : Int) ∧ K (.os e k ver (off + l.toNat) (h.toNat - l.toNat))
      | none => False else False
    | _ => False
/-- The kind of a slice type's elements. -/
def kindOf (D : TD) (T0 : TypeId) : Option El :=
  match tyOf D T0 with
  | some ti => match ti.srt with
    | .slice t => match tyOf D t with
      | some te => te.el
      | none => none
    | _ => none
  | none => none
def dsl (D : TD) (ti : TI) (t : TypeId) (s : St) (x : T) (lo hi mx : Option T) (K : T → Prop) : Prop :=
  match ti.srt with
  | .string => match x, mx with
    | .str b, none => dsliceS b lo hi K
    | _, _ => False
  | .slice _ => match kindOf D t with
    | some e0 => dslice e0 s x lo hi mx K
    | none => False
  | .array n te => match x, lo, hi, mx, tyOf D te with
    | .pt k 0, none, none, none, some _ => K (.as k n)
    | _, _, _, _, _ => False
  | _ => False
/-- Bytes in cells. -/
def cellsU8 : List T → Option (List Int)
  | [] => some []
  | .int .u8 m :: r => match cellsU8 r with
    | some l => some (m :: l)
    | none => none
  | _ => none
theorem cellsU8_ok : ∀ {cs : List T} {l : List Int}, cellsU8 cs = some l → cs = l.map (T.int .u8)
  | [], l, h => by simp [cellsU8] at h; subst h; rfl
  | c :: r, l, h => by
    unfold cellsU8 at h
    split at h
    · rename_i e; cases e
    · rename_i m r' e
      cases e
      split at h
      · rename_i l' hl
        injection h with h
        subst h
        rw [cellsU8_ok hl]; rfl
      · cases h
    · cases h
/-- append. -/
def dappendL (ti : TI) (e : El) (s : St) (x : T) (m : List (ty e)) (K : Kn) : Prop :=
  match x with
  | .nil => Room m.length ti.bytes (K (.oa e s.length 0) (s ++ [some (.arr 0 e m)]))
  | .sl true e' l => if h : e' = e then Need (0 < m.length) (Room (l.length + m.length) ti.bytes (K (.oa e s.length 0) (s ++ [some (.arr 0 e (asKind h l ++ m))]))) else False
  | .oa e' k ver => if e' = e then match arrOf s e k ver with
    | some l => Room (l.length + m.length) ti.bytes (K (.oa e k (ver + 1)) (s.set k (some (.arr (ver + 1) e (l ++ m)))))
    | none => False else False
  | _ => False
/-- Is it a slice that fills its room? -/
def isFull : T → Bool
  | .sl true _ _ => true
  | _ => false
def dappend (ti : TI) (s : St) (x y : T) (K : Kn) : Prop :=
  match ti.el with
  | some e => elems s e y fun m => match isFull x && !isFull y with
    | true => bif decide (m.length = 0) then K x s else dappendL ti e s x m K
    | false => dappendL ti e s x m K
  | none => False
/-- append, of a string's bytes. -/
def dappendS (ti : TI) (s : St) (x : T) (b : ByteArray) (K : Kn) : Prop :=
  match ti.el with
  | some e => match u8of e with
    | some f => dappendL ti e s x (f (strB b)) K
    | none => False
  | none => False
/-- append, of zeros. -/
def dappendZ (te : TI) (s : St) (e' : El) (l : List (ty e')) (n : Int) (K : Kn) : Prop :=
  match te.el, te.zero with
  | some e, some z => match dec e z with
    | some y => if h : e' = e then Need (0 < n) (Room (l.length + n.toNat) te.bytes (K (.oa e s.length 0) (s ++ [some (.arr 0 e (asKind h l ++ List.replicate n.toNat y))]))) else False
    | none => False
  | _, _ => False
/-- Cells that can be compared. Codes: 0 integers, 1 booleans, 2 strings. -/
def eqCells : List Nat → List T → List T → Option Bool
  | [], [], [] => some true
  | 0 :: ks, .int k a :: r, .int k' b :: q => match decide (k = k') with
    | true => (eqCells ks r q).map (decide (a = b) && ·)
    | false => none
  | 1 :: ks, .bool a :: r, .bool b :: q => (eqCells ks r q).map (decide (a = b) && ·)
  | 2 :: ks, .str a :: r, .str b :: q => (eqCells ks r q).map (decide (a = b) && ·)
  | _, _, _ => none
def eqKs (ti : TI) : List Nat :=
  match ti.eqs with
  | some ks => ks
  | none => []
def dcmp (op : BinOp) (a b : Int) : Option Bool :=
  match op with
  | .eql => some (decide (a = b))
  | .neq => some (!decide (a = b))
  | .lss => some (decide (a < b))
  | .leq => some (decide (a ≤ b))
  | .gtr => some (decide (b < a))
  | .geq => some (decide (b ≤ a))
  | _ => none
def bitsOf (op : BinOp) (k : IntKind) (x y : Int) : Int :=
  let a := BitVec.ofInt k.bits x
  let b := BitVec.ofInt k.bits y
  match op with
  | .and => k.wrap (a &&& b).toNat
  | .or => k.wrap (a ||| b).toNat
  | .xor => k.wrap (a ^^^ b).toNat
  | _ => k.wrap (a &&& ~~~b).toNat
def strLt (a b : ByteArray) : Bool := Op.bytesLess a.toList b.toList
def dnil (op : BinOp) (len : Nat) (K : T → Prop) : Prop :=
  match op with
  | .eql => bif decide (len = 0) then K .ub else K (.bool false)
  | .neq => bif decide (len = 0) then K .ub else K (.bool true)
  | _ => False
def dbin (op : BinOp) (ti : TI) (x y : T) (K : T → Prop) : Prop :=
  match x, y with
  | .int k a, .int k' b => match op with
    | .shl => 0 ≤ b ∧ K (.int k (k.wrap (a * 2 ^ (min b.toNat k.bits))))
    | .shr => 0 ≤ b ∧ K (.int k (a.fdiv (2 ^ (min b.toNat k.bits))))
    | op => match decide (k = k') with
      | true => match op with
        | .add => K (.int k (k.wrap (a + b)))
        | .sub => K (.int k (k.wrap (a - b)))
        | .mul => K (.int k (k.wrap (a * b)))
        | .quo => ¬ b = 0 ∧ K (.int k (k.wrap (a.tdiv b)))
        | .rem => ¬ b = 0 ∧ K (.int k (a.tmod b))
        | .and => K (.int k (bitsOf .and k a b))
        | .or => K (.int k (bitsOf .or k a b))
        | .xor => K (.int k (bitsOf .xor k a b))
        | .andNot => K (.int k (bitsOf .andNot k a b))
        | op => match dcmp op a b with
          | some c => K (.bool c)
          | none => False
      | false => False
  | .bool a, .bool b => match op, ti.srt with
    | .eql, .bool => K (.bool (decide (a = b)))
    | .neq, .bool => K (.bool (!decide (a = b)))
    | _, _ => False
  | .str a, .str b => match op with
    | .add => Room (a.size + b.size) 1 (K (.str (a ++ b)))
    | .eql => K (.bool (decide (a = b)))
    | .neq => K (.bool (!decide (a = b)))
    | .lss => K (.bool (strLt a b))
    | .leq => K (.bool (strLt a b || decide (a = b)))
    | .gtr => K (.bool (!(strLt a b || decide (a = b))))
    | .geq => K (.bool (!strLt a b))
    | _ => False
  | .ag xs, .ag ys => match ti.eqs, eqCells (eqKs ti) xs ys, op with
    | some n, some b, .eql => match decide (xs.length = n.length) with
      | true => K (.bool b)
      | false => False
    | some n, some b, .neq => match decide (xs.length = n.length) with
      | true => K (.bool (!b))
      | false => False
    | _, _, _ => False
  | _, _ => False
/-- Against nil. -/
def dbinNil (op : BinOp) (ti : TI) (s : St) (x : T) (K : T → Prop) : Prop :=
  match ti.srt with
  | .slice _ => match x with
    | .nil => dnil op 0 K
    | .sl _ _ l => dnil op l.length K
    | .oa e k ver => match arrOf s e k ver with
      | some l => dnil op l.length K
      | none => False
    | _ => False
  | _ => False
/-- An interface value against nil. -/
def dbinIf (op : BinOp) (ti : TI) (x : T) (K : T → Prop) : Prop :=
  match ti.srt with
  | .iface => match x, op with
    | .ic _ _, .eql => K (.bool false)
    | .ic _ _, .neq => K (.bool true)
    | .cst .nilIface, .eql => K (.bool true)
    | .cst .nilIface, .neq => K (.bool false)
    | _, _ => False
  | _ => False
def dun (op : UnOp) (x : T) (K : T → Prop) : Prop :=
  match op, x with
  | .not, .bool b => K (.bool (!b))
  | .neg, .int k n => K (.int k (k.wrap (0 - n)))
  | .xor, .int k n => K (.int k (bitsOf .xor k (match k.signed with | true => -1 | false => k.max) n))
  | _, _ => False
def dindexAddr (D : TD) (T0 : TypeId) (s : St) (x i : T) (K : T → Prop) : Prop :=
  match i with
  | .int _ n => match x with
    | .sl _ e l => if kindOf D T0 = some e then At l n fun u => K (.pr e u 0) else False
    | .oa e k ver => if kindOf D T0 = some e then match arrOf s e k ver with
      | some l => 0 ≤ n ∧ n.toNat < l.length ∧ K (.pe e k ver n.toNat 0)
      | none => False else False
    | .os e k ver off m => if kindOf D T0 = some e then match arrOf s e k ver with
      | some _ => 0 ≤ n ∧ n.toNat < m ∧ K (.pe e k ver (off + n.toNat) 0)
      | none => False else False
    | .pt k off => match tyOf D T0 with
      | some ti => match ti.srt with
        | .array m e => match tyOf D e with
          | some te => 0 ≤ n ∧ n.toNat < m ∧ K (.pt k (off + n.toNat * te.size))
          | none => False
        | _ => False
      | none => False
    | _ => False
  | _ => False
def strsL : List T → Option (List ByteArray)
  | [] => some []
  | .str s :: r => match strsL r with
    | some l => some (s :: l)
    | none => none
  | _ => none
/-- The strings of an array of strings. -/
def strsOf (te : TI) (cs : List T) : Option (List ByteArray) :=
  match te.srt, te.agg, te.size with
  | .string, false, 1 => strsL cs
  | _, _, _ => none
theorem strsL_ok : ∀ {cs : List T} {l : List ByteArray}, strsL cs = some l → cs = l.map T.str
  | [], l, h => by simp [strsL] at h; subst h; rfl
  | c :: r, l, h => by
    unfold strsL at h
    split at h
    · rename_i e; cases e
    · rename_i m r' e
      cases e
      split at h
      · rename_i l' hl
        injection h with h
        subst h
        rw [strsL_ok hl]; rfl
      · cases h
    · cases h
theorem strsOf_ok {te : TI} {cs : List T} {l : List ByteArray} (h : strsOf te cs = some l) {n : Nat} {s : ByteArray} (hl : l[n]? = some s) {K : T → Prop} (hK : K (.str s)) : subRow te.agg te.size cs (n * te.size) K := by
  unfold strsOf at h
  split at h
  case h_2 => cases h
  rename_i e1 e2 e3
  rw [e2, e3, strsL_ok h]
  simp [subRow, hl, hK]
def dindex (D : TD) (T0 : TypeId) (x i : T) (K : T → Prop) : Prop :=
  match i with
  | .int _ n => match tyOf D T0 with
    | some ti => match ti.srt, x with
      | .string, .str s => StrAt s n fun b => K (.int .u8 b)
      | .array m e, .ag cs => match tyOf D e with
        | some te => match strsOf te cs with
          | some l => 0 ≤ n ∧ n.toNat < m ∧ atI l n.toNat fun s => K (.str s)
          | none => 0 ≤ n ∧ n.toNat < m ∧ subRow te.agg te.size cs (n.toNat * te.size) K
        | none => False
      | _, _ => False
    | none => False
  | _ => False
def fieldOf (D : TD) (T0 : TypeId) (f : Nat) : Option (Nat × TI) :=
  match tyOf D T0 with
  | some ti => match ti.srt with
    | .struct fs => match fs[f]? with
      | some (off, t) => match tyOf D t with
        | some te => some (off, te)
        | none => none
      | none => none
    | _ => none
  | none => none
def dfieldAddr (D : TD) (T0 : TypeId) (x : T) (f : Nat) (K : T → Prop) : Prop :=
  match fieldOf D T0 f with
  | some (off, te) => match te.size with
    | 0 => False
    | _ + 1 => match x with
      | .pt k q => K (.pt k (q + off))
      | .pr e u j => K (.pr e u (j + off))
      | .pe e k ver i j => K (.pe e k ver i (j + off))
      | _ => False
  | none => False
def dfield (D : TD) (T0 : TypeId) (x : T) (f : Nat) (K : T → Prop) : Prop :=
  match fieldOf D T0 f with
  | some (off, te) => match x with
    | .ag cs => subRow te.agg te.size cs off K
    | _ => False
  | none => False
def dbuild (D : TD) (T0 : TypeId) (parts : List (Nat × T)) (K : T → Prop) : Prop :=
  match tyOf D T0 with
  | some ti => match ti.agg, ti.zero, placesT D ti.srt with
    | true, some z, some pl => match fillT pl z parts with
      | some cs => K (.ag cs)
      | none => False
    | _, _, _ => False
  | none => False
def repT (z : List T) : Nat → List T
  | 0 => []
  | n + 1 => z ++ repT z n
def dbuildSlice (D : TD) (T0 : TypeId) (len : Nat) (parts : List (Nat × T)) (K : T → Prop) : Prop :=
  match len with
  | 0 => match parts, tyOf D T0 with
    | [], some ti => match ti.srt with
      | .slice _ => K .nil
      | _ => False
    | _, _ => False
  | _ + 1 => match tyOf D T0 with
    | some ti => match ti.srt with
      | .slice t => match tyOf D t with
        | some te => match te.zero, te.el with
          | some z, some e => match decide (len * te.size ≤ 16777216) with
            | true => match fillT (fun i => some (i * te.size, te.size)) (repT z len) parts with
              | some cs => match decs e len cs with
                | some l => K (.sl true e l)
                | none => False
              | none => False
            | false => False
          | _, _ => False
        | none => False
      | _ => False
    | none => False
def dconv (D : TD) (src dst : TypeId) (s : St) (x : T) (K : Kn) : Prop :=
  match tyOf D src, tyOf D dst with
  | some a, some b => match x, a.srt, b.srt with
    | .int _ n, _, .int k => K (.int k (k.wrap n)) s
    | .str c, .string, .string => K (.str c) s
    | .sl _ e l, .slice t, .string => match tyOf D t with
      | some te => match te.srt, u8to e with
        | .int .u8, some f => K (.str (bStr (f l))) s
        | _, _ => False
      | none => False
    | .oa e k ver, .slice t, .string => match tyOf D t with
      | some te => match te.srt, u8to e, arrOf s e k ver with
        | .int .u8, some f, some l => K (.str (bStr (f l))) s
        | _, _, _ => False
      | none => False
    | .as k n, .slice t, .string => match rd s k, tyOf D t with
      | some (.cells cs), some te => match meHead cs, te.srt, cellsU8 cs with
        | false, .int .u8, some l => match decide (l.length = n) with
          | true => K (.str (bStr l)) s
          | false => False
        | _, _, _ => False
      | _, _ => False
    | _, _, _ => False
  | _, _ => False
def elemOf (D : TD) (t : TypeId) : Option TI :=
  match tyOf D t with
  | some ti => match ti.srt with
    | .slice e => tyOf D e
    | _ => none
  | none => none
/-- make, of a slice as long as its room. -/
def dmake (D : TD) (T0 : TypeId) (ln cp : T) (s : St) (K : Kn) : Prop :=
  match elemOf D T0 with
  | some te => match te.el, te.zero with
    | some e, some z => match dec e z with
      | some y => match ln, cp with
        | .int .i64 n, .int .i64 c => Need (0 ≤ n ∧ c = n) (Room n.toNat te.bytes (∀ l : List (ty e), l = List.replicate n.toNat y → K (.oa e s.length 0) (s ++ [some (.arr 0 e l)])))
        | _, _ => False
      | none => False
    | _, _ => False
  | none => False
/-! ### Maps -/
def keyEq : T → T → Bool
  | .int _ n, .int _ m => decide (n = m)
  | .str s, .str t => decide (s = t)
  | _, _ => false
/-- The first entry with a key. -/
def mfind (e : El) (k : T) : List (ty e) → Option (ty e)
  | [] => none
  | x :: r => match keyEq k ((enc e x).headD .undef) with
    | true => some x
    | false => mfind e k r
def mput (e : El) (k : T) (y : ty e) : List (ty e) → List (ty e)
  | [] => [y]
  | x :: r => match keyEq k ((enc e x).headD .undef) with
    | true => y :: r
    | false => x :: mput e k y r
def tBool : T → Bool
  | .bool b => b
  | _ => false
def tStr : T → ByteArray
  | .str s => s
  | _ => ⟨#[]⟩
def tInt : T → Int
  | .int _ n => n
  | _ => 0
def mval (e : El) (z : T) (o : Option (ty e)) : T := match z with
  | .bool b => .bool (match o with | some x => tBool ((enc e x).getD 1 .undef) | none => b)
  | .str s => .str (match o with | some x => tStr ((enc e x).getD 1 .undef) | none => s)
  | .int k n => .int k (match o with | some x => tInt ((enc e x).getD 1 .undef) | none => n)
  | _ => .undef
def keySrt : Srt → T → Bool
  | .int k, .int k' _ => decide (k = k')
  | .string, .str _ => true
  | _, _ => false
/-- A map type: the kind of its entries, a key, the zero of its values. -/
def mapInfo (D : TD) (t : TypeId) : Option (El × T × T) := match mapE t, tyOf D t with
  | some e, some ti => match mapSh e, ti.srt with
    | some (ks, vs), .map kt vt => match tyOf D kt, tyOf D vt with
      | some tk, some tu => match keySrt tk.srt ks, tu.zero with
        | true, some [z] => match tu.agg, sameC vs z with
          | false, true => some (e, ks, z)
          | _, _ => none
        | _, _ => none
      | _, _ => none
    | _, _ => none
  | _, _ => none
def mapAt (s : St) (e : El) : T → Option (Nat × List (ty e))
  | .mp k => match rd s k with
    | some (.cells [.ments e' l]) => if h : e' = e then some (k, asKind h l) else none
    | _ => none
  | _ => none
def dlookup (D : TD) (t : TypeId) (m k : T) (ok : Bool) (s : St) (K : T → Prop) : Prop :=
  match mapInfo D t with
  | some (e, ks, z) => match mapAt s e m, sameC ks k with
    | some (_, l), true => match ok with
      | true => K (.tu [mval e z (mfind e k l), .bool (mfind e k l).isSome])
      | false => K (mval e z (mfind e k l))
    | _, _ => False
  | none => False
def dmapUpdate (D : TD) (t : TypeId) (m k v : T) (s : St) (K : St → Prop) : Prop :=
  match mapInfo D t with
  | some (e, ks, _) => match mapAt s e m, sameC ks k, dec e [k, v] with
    | some (q, l), true, some y => K (s.set q (some (.cells [.ments e (mput e k y l)])))
    | _, _, _ => False
  | none => False
def clearAt {α : Type} (l : List α) (off n : Nat) (y : α) : List α := l.take off ++ (List.replicate n y ++ l.drop (off + n))
/-- clear, of a slice. -/
def dclear (te : TI) (s : St) (x : T) (K : St → Prop) : Prop :=
  match te.el, te.zero with
  | some e, some z => match dec e z with
    | some y => match x with
      | .nil => K s
      | .oa e' k ver => if e' = e then match arrOf s e k ver with
        | some l => K (s.set k (some (.arr ver e (clearAt l 0 l.length y))))
        | none => False else False
      | .os e' k ver off n => if e' = e then match arrOf s e k ver with
        | some l => K (s.set k (some (.arr ver e (clearAt l off n y))))
        | none => False else False
      | _ => False
    | none => False
  | _, _ => False
def dbuiltin (D : TD) (b : Builtin) (ts : List TypeId) (vs : List T) (s : St) (K : Kn) : Prop :=
  match b, ts, vs with
  | .len, [t], [x] => match tyOf D t with
    | some ti => match ti.srt with
      | .string => match x with
        | .str b => K (.int .i64 (b.size : Nat)) s
        | _ => False
      | .slice _ => lenT s x fun n => K (.int .i64 (n : Nat)) s
      | _ => False
    | none => False
  | .append, [t, t'], [x, y] => match decide (t = t') with
    | true => match elemOf D t with
      | some te => match te.zero with
        | some _ => dappend te s x y K
        | none => False
      | none => False
    | false => match elemOf D t, tyOf D t' with
      | some te, some ti' => match ti'.srt, y with
        | .int _, .int _ n => match x with
          | .sl true e' l => dappendZ te s e' l n K
          | _ => False
        | .string, .str b => match te.zero with
          | some _ => dappendS te s x b K
          | none => False
        | _, _ => False
      | _, _ => False
  | .cap, [t], [.sl true _ l] => match tyOf D t with
    | some ti => match ti.srt with
      | .slice _ => K (.int .i64 (l.length : Nat)) s
      | _ => False
    | none => False
  | .clear, [t], [x] => match elemOf D t with
    | some te => dclear te s x fun s => K .undef s
    | none => False
  | .min, _, [.int k a, .int _ b] => K (.int k (if b < a then b else a)) s
  | .max, _, [.int k a, .int _ b] => K (.int k (if b > a then b else a)) s
  | _, _, _ => False
/-- The function that a value names, and what it is called with. -/
def tgt : T → List T → Option (FuncId × List T)
  | .fn f xs ys, vs => some (f, xs ++ vs ++ ys)
  | _, _ => none
/-- What callees do: proved apart. -/
abbrev Gam := FuncId → List T → St → Kn → Kn → Prop
def dpick (x : Bool) (p q : T) (K : T → Prop) : Prop :=
  match p, q with
  | .bool p, .bool q => K (.bool (bif x then p else q))
  | p, q => bif x then K p else K q
def dop (D : TD) (Γ : Gam) (op : Op) (ρ : Operand → T) (s : St) (K X : Kn) : Prop :=
  match op with
  | .move x => K (ρ x) s
  | .assign x => K (ρ x) s
  | .pick c a b => match ρ c with
    | .bool x => dpick x (ρ a) (ρ b) fun v => K v s
    | _ => False
  | .alloc t => match tyOf D t with
    | some ti => match ti.zero with
      | some z => K (.pt s.length 0) (s ++ [some (.cells z)])
      | none => False
    | none => False
  | .box _ v => match cellsOf (ρ v) with
    | some z => K (.pt s.length 0) (s ++ [some (.cells z)])
    | none => False
  | .makeSlice t x y => dmake D t (ρ x) (ρ y) s K
  | .makeMap t none => match mapInfo D t with
    | some (e, _, _) => K (.mp s.length) (s ++ [some (.cells [.ments e []])])
    | none => False
  | .lookup t m k ok => dlookup D t (ρ m) (ρ k) ok s fun v => K v s
  | .mapUpdate t m k v => dmapUpdate D t (ρ m) (ρ k) (ρ v) s fun s => K .undef s
  | .insert t m k v => dmapUpdate D t (ρ m) (ρ k) (ρ v) s fun s => K .undef s
  | .build t parts => dbuild D t (parts.toList.map fun p => (p.1, ρ p.2)) fun v => K v s
  | .buildSlice t len parts => dbuildSlice D t len (parts.toList.map fun p => (p.1, ρ p.2)) fun v => K v s
  | .load t a => match tyOf D t with
    | some ti => dload ti s (ρ a) fun v => K v s
    | none => False
  | .store t a x => match tyOf D t with
    | some ti => dstore ti s (ρ a) (ρ x) fun s => K .undef s
    | none => False
  | .nilCheck x => match ρ x with
    | .pt k q => K (.pt k q) s
    | .pr e u j => K (.pr e u j) s
    | .pe e k ver i j => K (.pe e k ver i j) s
    | .fn f xs ys => K (.fn f xs ys) s
    | _ => False
  | .binOp op t x y _ => match tyOf D t with
    | some ti => match y with
      | .const (.slice none 0 0) => dbinNil op ti s (ρ x) fun v => K v s
      | .const .nilIface => dbinIf op ti (ρ x) fun v => K v s
      | _ => dbin op ti (ρ x) (ρ y) fun v => K v s
    | none => False
  | .unOp op _ x => dun op (ρ x) fun v => K v s
  | .convert a b x => dconv D a b s (ρ x) K
  | .makeInterface t x => match tyOf D t with
    | some ti => match conc ti.srt with
      | true => K (.ic t (ρ x)) s
      | false => False
    | none => False
  | .panic x => match ρ x with
    | .ic t v => X (.ic t v) s
    | _ => False
  | .makeFunc (.func f) first captured => match (ytab f).isNone with
    | true => K (.fn f (first.toList.map ρ) (captured.toList.map ρ)) s
    | false => False
  | .slice t x lo hi mx => match tyOf D t with
    | some ti => dsl D ti t s (ρ x) (lo.map ρ) (hi.map ρ) (mx.map ρ) fun v => K v s
    | none => False
  | .fieldAddr t x f => dfieldAddr D t (ρ x) f fun v => K v s
  | .field t x f => dfield D t (ρ x) f fun v => K v s
  | .indexAddr t x i => dindexAddr D t s (ρ x) (ρ i) fun v => K v s
  | .index t x i => dindex D t (ρ x) (ρ i) fun v => K v s
  | .extract x i => match ρ x with
    | .tu vs => match vs[i]? with
      | some v => K v s
      | none => False
    | _ => False
  | .call { callee := .builtin b, args := args, argTypes := ts } => dbuiltin D b ts.toList (args.toList.map ρ) s K
  | .call { callee := .value f, args := args, argTypes := _ } => match tgt (ρ f) (args.toList.map ρ) with
    | some (g, vs) => Γ g vs s K X
    | none => False
  | _ => False
end Go.Proofs.YtoclmkbjgmgekaaDoor
