/-
  The machine over typed values, 7: reckoning, indexes, slices. No program in sight.
-/
import Derived.Test.YthjikjhddddplaaMS2
namespace Go.Proofs.Ythjikjhddddplaa
set_option linter.unusedVariables false
set_option linter.unusedSimpArgs false
open Go.RowKit

section
variable {P : Program} {D : TD} {g : G} {st : St} {w : World} {n : Nat} {t : Tm} {a : Act} {o : Oper} {K X : Kn}

theorem asInt_some {v : T} {K : Int → Prop} (h : asInt v K) : ∃ k n, v = .int k n ∧ K n := by
  unfold asInt at h
  split at h
  · exact ⟨_, _, rfl, h⟩
  · exact h.elim
theorem R_int {k : IntKind} {m : Int} {x : Value} (h : R g (.int k m) x) : x = .int k m := by cases h; rfl
theorem kind_some (hD : TDok P D) {T0 : TypeId} {e : El} (h : kindOf D T0 = some e) : ∃ t' i, P.underlying T0 = some (.slice t') ∧ P.info? t' = some i ∧ i.size = sz e := by
  unfold kindOf at h
  split at h
  case h_2 => cases h
  rename_i ti hti
  split at h
  case h_2 => cases h
  rename_i t' hs
  split at h
  case h_2 => cases h
  rename_i te hte
  obtain ⟨i, hi, hi', _⟩ := (hD _ _ hte).info
  exact ⟨t', i, slice_under (hD _ _ hti) hs, hi, by rw [hi', ((hD _ _ hte).el e h).1]⟩
theorem dok_indexAddr (hD : TDok P D) (hg : Good g st w) (ht : RelT g n t a) {T0 : TypeId} {x y : Operand} (ho : o.op = .indexAddr T0 x y) (h : dindexAddr D T0 st (ev t x) (ev t y) fun v => K v st) : DOk P o a g st w K X := by
  unfold dindexAddr at h
  split at h
  case h_2 => exact h.elim
  rename_i k m hy
  have hy' := R_int (by have := ht.ev y; rw [hy] at this; exact this)
  have hR := ht.ev x
  generalize hv : ev t x = xv at hR h
  generalize he : a.eval x = ex at hR
  split at h
  · rename_i full e l
    split at h
    case isFalse => exact h.elim
    rename_i hk
    obtain ⟨t', i, hu, hi, hsz⟩ := kind_some hD hk
    obtain ⟨h0, u, hu', hK⟩ := h
    have hlt := (List.getElem?_eq_some_iff.1 hu').1
    cases hR with
    | sl _ _ _ A c h1 h2 h3 h4 =>
      obtain ⟨b, off, cs, rfl, hro, henc⟩ := h4 (by rintro rfl; simp at hlt)
      have hlt' : m < (l.length : Int) := by omega
      refine dok_quiet (x := .pointer (some ⟨b, off + m.toNat * sz e + 0, none⟩)) hg ?_ (.pr e u 0 b _ cs hro ?_) hK
      · simp [execOp, ho, Instr.indexAt, he, hy', asIntOf, quiet_bind, hu, hi, hsz, h0, hlt', Addr.add_lit]
      · rw [← encs_at hu', ← henc]
        have : m.toNat * sz e + sz e ≤ l.length * sz e := by rw [← Nat.succ_mul]; exact Nat.mul_le_mul_right _ hlt
        rw [List.drop_take, List.take_take, List.drop_drop, Nat.min_eq_left (by omega)]
  · rename_i e k0 ver
    split at h
    case isFalse => exact h.elim
    rename_i hk
    obtain ⟨t', i, hu, hi, hsz⟩ := kind_some hD hk
    split at h
    case h_2 => exact h.elim
    rename_i l hl
    obtain ⟨h0, hlt, hK⟩ := h
    cases hR with
    | oa _ _ _ oi A p1 p2 p3 p4 =>
      obtain ⟨oi', q1, q2, _⟩ := hg.arr (arrOf_some hl)
      rw [p1] at q1
      injection q1 with q1
      subst q1
      have hc : oi.cap ≠ 0 := by omega
      have := p2 hc
      subst this
      have hlt' : m < (oi.len : Int) := by omega
      refine dok_quiet (x := .pointer (some ⟨oi.b, m.toNat * sz e + 0, none⟩)) hg ?_ (.pe e k0 ver _ 0 oi p1 hc) hK
      simp [execOp, ho, Instr.indexAt, he, hy', asIntOf, quiet_bind, hu, hi, hsz, h0, hlt', Addr.add_lit]
  · rename_i e k0 ver off m0
    split at h
    case isFalse => exact h.elim
    rename_i hk
    obtain ⟨t', i, hu, hi, hsz⟩ := kind_some hD hk
    split at h
    case h_2 => exact h.elim
    rename_i l hl
    obtain ⟨h0, hlt, hK⟩ := h
    cases hR with
    | os _ _ _ _ _ oi A c p1 p2 p3 p4 p5 p6 =>
      have := p3 (by omega)
      subst this
      have hlt' : m < (m0 : Int) := by omega
      refine dok_quiet (x := .pointer (some ⟨oi.b, (off + m.toNat) * sz e + 0, none⟩)) hg ?_ (.pe e k0 ver _ 0 oi p1 (by omega)) hK
      simp [execOp, ho, Instr.indexAt, he, hy', asIntOf, quiet_bind, hu, hi, hsz, h0, hlt', Addr.add_lit, Nat.add_mul]
  · rename_i k0 off
    split at h
    case h_2 => exact h.elim
    rename_i ti hti
    split at h
    case h_2 => exact h.elim
    rename_i m0 e hs
    split at h
    case h_2 => exact h.elim
    rename_i te hte
    obtain ⟨h0, hlt, hK⟩ := h
    have hu := array_under (hD _ _ hti) hs
    obtain ⟨i, hi, hi', _⟩ := (hD _ _ hte).info
    cases hR with
    | pt _ _ oi p1 =>
      have hlt' : m < (m0 : Int) := by omega
      refine dok_quiet (x := .pointer (some ⟨oi.b, off + m.toNat * te.size, none⟩)) hg ?_ (.pt k0 _ oi p1) hK
      simp [execOp, ho, Instr.indexAt, he, hy', asIntOf, quiet_bind, hu, hi, hi', h0, hlt', Addr.add_lit, Instr.sureAddr]
  · exact h.elim
theorem dok_index (hD : TDok P D) (hg : Good g st w) (ht : RelT g n t a) {T0 : TypeId} {x y : Operand} (ho : o.op = .index T0 x y) (h : dindex D T0 (ev t x) (ev t y) fun v => K v st) : DOk P o a g st w K X := by
  unfold dindex at h
  split at h
  case h_2 => exact h.elim
  rename_i k m hy
  have hy' := R_int (by have := ht.ev y; rw [hy] at this; exact this)
  have hR := ht.ev x
  generalize hv : ev t x = xv at hR h
  generalize he : a.eval x = ex at hR
  split at h
  case h_2 => exact h.elim
  rename_i ti hti
  split at h
  · rename_i s hs
    have hu := str_under (hD _ _ hti) hs
    obtain ⟨h0, b, hb, hK⟩ := h
    cases hR
    exact dok_quiet (x := .int .u8 b.toNat) hg (by simp [execOp, ho, Instr.index, he, hy', asIntOf, quiet_bind, hu, h0, hb]) (.int _ _) hK
  · rename_i m0 e cs hs
    split at h
    case h_2 => exact h.elim
    rename_i te hte
    obtain ⟨h0, hlt, h⟩ := h
    have hu := array_under (hD _ _ hti) hs
    obtain ⟨i, hi, hi', _⟩ := (hD _ _ hte).info
    obtain ⟨v, hK, hsub⟩ := subRow_some h
    cases hR with
    | ag _ xs k1 k2 k3 =>
      obtain ⟨z, z1, z2⟩ := quiet_part (hD _ _ hte) (R.ag cs xs k1 k2 k3) hsub
      have hlt' : m < (m0 : Int) := by omega
      exact dok_quiet (x := z) hg (by simp [execOp, ho, Instr.index, he, hy', asIntOf, quiet_bind, hu, h0, hlt', hi, hi', z1]) z2 hK
  · exact h.elim
theorem dok_extract (hg : Good g st w) (ht : RelT g n t a) {x : Operand} {i : Nat} {vs : List T} {v : T} (ho : o.op = .extract x i) (h1 : ev t x = .tu vs) (h : vs[i]? = some v) (hK : K v st) : DOk P o a g st w K X := by
  have hR := ht.ev x
  rw [h1] at hR
  generalize he : a.eval x = ex at hR
  cases hR with
  | tu _ xs k1 k2 =>
    have hlt : i < xs.size := by rw [← k1]; exact (List.getElem?_eq_some_iff.1 h).1
    refine dok_quiet (x := xs[i]) hg ?_ (k2 i v _ h (by simp [hlt])) hK
    simp [execOp, ho, he, Instr.extract, hlt, quiet_bind]
theorem dok_makeFunc (hg : Good g st w) (ht : RelT g n t a) {f : FuncId} {xs ys : Array Operand} (ho : o.op = .makeFunc (.func f) xs ys) (hK : K (.fn f (xs.toList.map (ev t)) (ys.toList.map (ev t))) st) : DOk P o a g st w K X := by
  refine dok_quiet (x := .func (.func f) (xs.map a.eval) (ys.map a.eval)) hg (by simp only [execOp, ho, Instr.makeFunc]; rfl) (.fn f _ _ _ _ (by simp) (by simp) (fun i c x hc hx => ?_) (fun i c x hc hx => ?_)) hK
  · simp only [List.getElem?_map, Array.getElem?_toList, Option.map_eq_some_iff] at hc
    obtain ⟨q, q1, rfl⟩ := hc
    simp only [Array.getElem?_map, q1, Option.map_some, Option.some.injEq] at hx
    subst hx
    exact ht.ev q
  · simp only [List.getElem?_map, Array.getElem?_toList, Option.map_eq_some_iff] at hc
    obtain ⟨q, q1, rfl⟩ := hc
    simp only [Array.getElem?_map, q1, Option.map_some, Option.some.injEq] at hx
    subst hx
    exact ht.ev q

/-! ### Numbers, strings -/
theorem beq_dec {x y : Int} : (x == y) = decide (x = y) := by rw [Bool.eq_iff_iff]; simp
theorem bytes_dec' {a b : ByteArray} : (a.toList == b.toList) = decide (a = b) := by
  rw [Bool.eq_iff_iff]
  simp only [beq_iff_eq, decide_eq_true_eq, ByteArray.toList_eq]
  exact ⟨fun h => ByteArray.ext (Array.toList_inj.1 h), fun h => by rw [h]⟩
theorem cmp_ok {op : BinOp} {p q : Int} {c : Bool} (h : dcmp op p q = some c) : quiet P (Op.intCmp op p q) = some (.bool c) := by
  cases op <;> simp only [dcmp, reduceCtorEq, Option.some.injEq] at h <;> subst h <;> simp only [Op.intCmp, quiet_pure, beq_dec, bne] <;> rfl
theorem bits_ok {op : BinOp} {k : IntKind} {p q : Int} (h : op = .and ∨ op = .or ∨ op = .xor ∨ op = .andNot) : quiet P (Op.intBits op k p q) = some (.int k (bitsOf op k p q)) := by
  rcases h with rfl | rfl | rfl | rfl <;> rfl
theorem run_bin {op : BinOp} {T0 U : TypeId} {x y : Operand} {p q v : Value} (ho : o.op = .binOp op T0 x y U) (hx : a.eval x = p) (hy : a.eval y = q) (hgd : eqGuard op T0 x y p q = pure ()) (h : quiet P (binOp op T0 p q) = some v) : quiet P (execOp a.eval o) = some (.value v) := by
  simp only [execOp, ho, hx, hy, hgd, quiet_bind, quiet_pure, Option.bind_some, h]
theorem guard_int {op : BinOp} {T0 : TypeId} {x y : Operand} {k k' : IntKind} {p q : Int} : eqGuard op T0 x y (.int k p) (.int k' q) = pure () := by cases op <;> rfl
theorem guard_str {op : BinOp} {T0 : TypeId} {x y : Operand} {p q : ByteArray} : eqGuard op T0 x y (.string p) (.string q) = pure () := by cases op <;> rfl
theorem guard_bool {op : BinOp} {T0 : TypeId} {x y : Operand} {p q : Bool} : eqGuard op T0 x y (.bool p) (.bool q) = pure () := by cases op <;> rfl
theorem guard_slice {op : BinOp} {T0 : TypeId} {x y : Operand} {A B : Option Addr} {p q r s : Nat} : eqGuard op T0 x y (.slice A p q) (.slice B r s) = pure () := by cases op <;> rfl
theorem quiet_nil' {T0 e : TypeId} (h : P.underlying T0 = some (.slice e)) (A : Option Addr) (m c : Nat) : quiet P (Op.equal T0 (.slice A m c) (.slice none 0 0)) = some A.isNone := by
  have key : ∀ d, quiet P (Op.equalIn (d + 1) T0 (.slice A m c) (.slice none 0 0)) = some A.isNone := fun d => by
    cases A <;> simp [Op.equalIn, quiet_bind, h]
  exact key _
theorem slice_shape (hg : Good g st w) {v : T} {x : Value} (h : R g v x) : (∀ full e l, v = .sl full e l → ∃ A c, x = .slice A l.length c ∧ (l.length ≠ 0 → A.isNone = false)) ∧ (v = .nil → ∃ A c, x = .slice A 0 c) ∧
    (∀ e k ver l, v = .oa e k ver → arrOf st e k ver = some l → ∃ A c, x = .slice A l.length c ∧ (l.length ≠ 0 → A.isNone = false)) := by
  refine ⟨fun full e l hv => ?_, fun hv => ?_, fun e k ver l hv hl => ?_⟩ <;> subst hv
  · cases h with
    | sl _ _ _ A c h1 h2 h3 h4 => exact ⟨A, c, rfl, fun hn => by obtain ⟨b, off, cs, rfl, _⟩ := h4 (by rintro rfl; exact hn rfl); rfl⟩
  · cases h with
    | nil A => exact ⟨A, 0, rfl⟩
  · cases h with
    | oa _ _ _ oi A p1 p2 p3 p4 =>
      obtain ⟨oi', q1, q2, _⟩ := hg.arr (arrOf_some hl)
      rw [p1] at q1
      injection q1 with q1
      subst q1
      rw [← q2]
      exact ⟨A, _, rfl, fun hn => by rw [p2 (by omega)]; rfl⟩
end
end Go.Proofs.Ythjikjhddddplaa
