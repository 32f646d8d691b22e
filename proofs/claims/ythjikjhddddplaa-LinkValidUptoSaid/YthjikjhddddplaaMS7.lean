/-
  The machine over typed values, 10b: clear. No program in sight.
-/
import Derived.Test.YthjikjhddddplaaMS5
namespace Go.Proofs.Ythjikjhddddplaa
set_option linter.unusedVariables false
set_option linter.unusedSimpArgs false
open Go.RowKit

theorem zeroCells_len {zs : Array Value} {n : Nat} : (Builtin.zeroCells zs n).toList.length = n * zs.size := by simp [Builtin.zeroCells]
theorem zeroCells_get {zs : Array Value} {n j : Nat} (h : j < n * zs.size) : (Builtin.zeroCells zs n).toList[j]? = zs[j % zs.size]? := by
  have hp : 0 < zs.size := by
    rcases Nat.eq_zero_or_pos zs.size with h0 | h0
    · rw [h0] at h; simp at h
    · exact h0
  have hm := Nat.mod_lt j hp
  simp [Builtin.zeroCells, h, hm]
section
variable {P : Program} {D : TD} {g : G} {st : St} {w : World} {n : Nat} {t : Tm} {a : Act} {o : Oper} {K X : Kn}
theorem clearAt_len {α : Type} {l : List α} {off n : Nat} {y : α} (h : off + n ≤ l.length) : (clearAt l off n y).length = l.length := by simp [clearAt]; omega
theorem clearAt_get {α : Type} {l : List α} {off n : Nat} {y : α} (h : off + n ≤ l.length) (p : Nat) : (clearAt l off n y)[p]? = if off ≤ p ∧ p < off + n then some y else l[p]? := by
  unfold clearAt
  by_cases h1 : p < off
  · rw [List.getElem?_append_left (by simp; omega), List.getElem?_take_of_lt h1, if_neg (by omega)]
  · rw [List.getElem?_append_right (by simp; omega)]
    have hl : (l.take off).length = off := by simp; omega
    rw [hl]
    by_cases h2 : p < off + n
    · rw [List.getElem?_append_left (by simp; omega), if_pos (by omega), List.getElem?_replicate, if_pos (by omega)]
    · rw [List.getElem?_append_right (by simp; omega), if_neg (by omega), List.getElem?_drop]
      congr 1
      have : (List.replicate n y).length = n := List.length_replicate
      omega
theorem dok_clear1 (hg : Good g st w) {T0 E0 : TypeId} {te : TI} (hu : P.underlying T0 = some (.slice E0)) (hT : TIok P E0 te) {X0 : Operand} (ho : o.op = .call { callee := .builtin .clear, args := #[X0], argTypes := #[T0] }) {e : El} (he : te.el = some e) {z : List T} (hz : te.zero = some z) {y : ty e} (hy : dec e z = some y)
    {k ver : Nat} {l : List (ty e)} (hk : st[k]? = some (some (.arr ver e l))) {oi : OI} (hoi : g.ob k ver = some oi) {off m c : Nat} {A : Option Addr} (hex : a.eval X0 = .slice A m c) (hA : m ≠ 0 → A = some ⟨oi.b, off * sz e, none⟩) (hm : off + m ≤ l.length) (hK : K .undef (st.set k (some (.arr ver e (clearAt l off m y))))) : DOk P o a g st w K X := by
  obtain ⟨oi', h1, f1, f2, f3, f4⟩ := hg.arr hk
  rw [hoi] at h1
  injection h1 with h1
  subst h1
  have hkl : k < st.length := (List.getElem?_eq_some_iff.1 hk).1
  by_cases h0 : m = 0
  · subst h0
    have : st.set k (some (.arr ver e (clearAt l off 0 y))) = st := by
      have hc : clearAt l off 0 y = l := by simp [clearAt]
      rw [hc]
      refine List.ext_getElem? fun i => ?_
      rw [List.getElem?_set]
      split
      · rename_i e1; subst e1; first | (rw [hk]) | (rw [if_pos hkl, hk])
      · rfl
    rw [this] at hK
    refine dok_quiet (x := .tuple #[]) hg ?_ (.undef _) hK
    cases A <;> simp [execOp, ho, resolve, invoke, builtin, Builtin.clear_, hex, quiet_bind, hu]
  have hA := hA h0
  subst hA
  have hcap : oi.cap ≠ 0 := by omega
  obtain ⟨g0, blk, E, fr, g1, g2, g3, g4⟩ := f4 hcap
  obtain ⟨i, x, hi, hix, hx⟩ := R_zero (g := g) hT hz
  obtain ⟨d1, d2⟩ := dec_ok e z y hy
  have hp := sz_pos e
  cases hx with
  | ag _ _ r1 r2 r3 =>
  have hxs : x.cells.size = sz e := by rw [← r1, d1]
  have hlen : (Builtin.zeroCells x.cells m).toList.length = m * sz e := by rw [zeroCells_len, hxs]
  have hb : off * sz e + m * sz e ≤ l.length * sz e := by rw [← Nat.add_mul]; exact Nat.mul_le_mul_right _ hm
  have hle := g3.le
  rw [encs_len] at hle
  have hall : ∀ v ∈ (Builtin.zeroCells x.cells m).toList, v.oneCell' = true := by
    intro v hv
    obtain ⟨j, hj⟩ := List.getElem?_of_mem hv
    have hjl := (List.getElem?_eq_some_iff.1 hj).1
    rw [zeroCells_len] at hjl
    rw [zeroCells_get hjl] at hj
    exact r3 _ v hj
  obtain ⟨w', blk', a1, a2, a3, a4, a5, a6, a7, a8, a9⟩ := run_storeRow (P := P) oi.b (off * sz e) (Builtin.zeroCells x.cells m).toList 0 w blk E fr g1 g2 (by rw [hlen]; omega) hall
  have hz0 : ∀ w, (zeroValue E0).run P w = .ok x w := fun w => quiet_run (by rw [quiet_zero, hi]; simp [hix]) w
  have hrun : (execOp a.eval o).run P w = .ok (.value (.tuple #[])) w' := by
    obtain ⟨m', rfl⟩ : ∃ m', m = m' + 1 := ⟨m - 1, by omega⟩
    simp [execOp, ho, resolve, invoke, builtin, Builtin.clear_, hex, run_underlying hu, hz0, a1]
  intro K' Q' hK' _
  unfold Oper.wp
  rw [hrun]
  have hn : ¬ (isArr (.arr ver e l) = true ∧ oi.cap = 0) := by simp [hcap]
  have hcells : ∀ (j : Nat) (u : T), (encs e (clearAt l off m y))[j]? = some u → ∃ x : Value, blk'[j]? = some x ∧ x.oneCell' = true ∧ R g u x := by
    intro j u hj
    have hjl : j < (clearAt l off m y).length * sz e := by rw [← encs_len]; exact (List.getElem?_eq_some_iff.1 hj).1
    rw [clearAt_len hm] at hjl
    have hpd : j / sz e < l.length := Nat.div_lt_of_lt_mul (by rw [Nat.mul_comm]; exact hjl)
    have hje : j = j / sz e * sz e + j % sz e := by rw [Nat.mul_comm]; exact (Nat.div_add_mod j (sz e)).symm
    have hr := Nat.mod_lt j hp
    have hb' := a4 j
    simp only [Nat.add_zero, hlen] at hb'
    generalize hq : j / sz e = p at *
    generalize hrr : j % sz e = r at *
    by_cases hin : off ≤ p ∧ p < off + m
    · have hg' : (clearAt l off m y)[p]? = some y := by rw [clearAt_get hm, if_pos hin]
      rw [hje, encs_get hg' hr] at hj
      obtain ⟨c0, c1, c2⟩ := d2 r u hj
      have hlo : off * sz e ≤ j ∧ j < off * sz e + m * sz e := by
        have h2 := Nat.mul_le_mul_right (sz e) hin.1
        have h3 : p * sz e + sz e ≤ off * sz e + m * sz e := by rw [← Nat.succ_mul, ← Nat.add_mul]; exact Nat.mul_le_mul_right _ hin.2
        omega
      rw [if_pos hlo] at hb'
      have hj2 : j - off * sz e < m * x.cells.size := by rw [hxs]; omega
      rw [zeroCells_get hj2, hxs] at hb'
      have hmod : (j - off * sz e) % sz e = r := by
        rw [hje, show p * sz e + r - off * sz e = r + (p - off) * sz e by rw [Nat.sub_mul]; have := Nat.mul_le_mul_right (sz e) hin.1; omega, Nat.add_mul_mod_self_right, Nat.mod_eq_of_lt hr]
      rw [hmod] at hb'
      have hrl : r < x.cells.size := by omega
      rw [Array.getElem?_eq_getElem hrl] at hb'
      exact ⟨_, hb', r3 r _ (Array.getElem?_eq_getElem hrl), c2 g _ (r2 r c0 _ c1 (Array.getElem?_eq_getElem hrl))⟩
    · have hg' : (clearAt l off m y)[p]? = some l[p] := by rw [clearAt_get hm, if_neg hin, List.getElem?_eq_getElem hpd]
      rw [hje, encs_get hg' hr] at hj
      have hout : ¬ (off * sz e ≤ j ∧ j < off * sz e + m * sz e) := by
        intro ⟨q1, q2⟩
        apply hin
        rcases Nat.lt_or_ge p off with h2 | h2
        · have := Nat.mul_le_mul_right (sz e) (show p + 1 ≤ off from h2)
          rw [Nat.succ_mul] at this; omega
        · refine ⟨h2, ?_⟩
          rcases Nat.lt_or_ge p (off + m) with h3 | h3
          · exact h3
          · have := Nat.mul_le_mul_right (sz e) h3
            rw [Nat.add_mul] at this; omega
      rw [if_neg hout] at hb'
      have hold : (encs e l)[j]? = some u := by rw [hje, encs_get (List.getElem?_eq_getElem hpd) hr]; exact hj
      obtain ⟨v, v1, v2, v3⟩ := g3.at_ j u hold
      exact ⟨v, by rw [hb']; exact v1, v2, v3⟩
  obtain ⟨k1, k2, k3⟩ := good_put (st' := st.set k (some (.arr ver e (clearAt l off m y)))) (o' := .arr ver e (clearAt l off m y)) (oi := oi) (w' := w') hg (set_at hkl) (by omega) (by simp) rfl (.inr hoi) (fun u oi' hu => old_ver hg hk hu) ⟨by rw [clearAt_len hm]; exact f1, f2, f3⟩
    (fun _ => .inr ⟨_, hk, blk_of hoi hn⟩) a7 a8 a9 (by omega) (fun b _ hb => a5 b fun e1 => hb _ hk (by rw [blk_of hoi hn, e1])) (fun _ => ⟨blk', E, fr, a2, by rw [a3]; exact g2, ⟨by simp only [obCells]; rw [a3, encs_len, clearAt_len hm]; exact hle, hcells⟩, by simp only [obWide]; rw [a3]; exact g4⟩) (fun o2 ho2 => by
      rw [hk] at ho2
      simp only [Option.some.injEq] at ho2
      subst ho2
      exact ⟨_, _, rfl⟩)
  exact hK' _ _ _ _ _ hK k1 ⟨k3, set_hid (.inl ⟨_, hk⟩)⟩ k2 (.undef _)
theorem dok_clear (hD : TDok P D) (hg : Good g st w) (ht : RelT g n t a) {T0 : TypeId} {x : Operand} (ho : o.op = .call { callee := .builtin .clear, args := #[x], argTypes := #[T0] }) {te : TI} (hte : elemOf D T0 = some te) (h : dclear te st (ev t x) fun s => K .undef s) : DOk P o a g st w K X := by
  unfold elemOf at hte
  split at hte
  case h_2 => cases hte
  rename_i ti hti
  split at hte
  case h_2 => cases hte
  rename_i t' hs
  have hu := slice_under (hD _ _ hti) hs
  have hT := hD _ _ hte
  unfold dclear at h
  split at h
  case h_2 => exact h.elim
  rename_i e z he hz
  split at h
  case h_2 => exact h.elim
  rename_i y hy
  have hR := ht.ev x
  generalize hv : ev t x = xv at hR h
  generalize hex : a.eval x = ex at hR
  split at h
  · cases hR with
    | nil A =>
      refine dok_quiet (x := .tuple #[]) hg ?_ (.undef _) h
      cases A <;> simp [execOp, ho, resolve, invoke, builtin, Builtin.clear_, hex, quiet_bind, hu]
  · rename_i e' k ver
    split at h
    case isFalse => exact h.elim
    rename_i hk
    subst hk
    split at h
    case h_2 => exact h.elim
    rename_i l hl
    cases hR with
    | oa _ _ _ oi A p1 p2 p3 p4 =>
      have hk := arrOf_some hl
      obtain ⟨oi', h1, f1, f2, f3, _⟩ := hg.arr hk
      rw [p1] at h1
      injection h1 with h1
      subst h1
      rw [← f1] at h
      exact dok_clear1 hg hu hT ho he hz hy hk p1 (off := 0) hex (fun h0 => by rw [Nat.zero_mul]; exact p2 (by omega)) (by omega) h
  · rename_i e' k ver off m
    split at h
    case isFalse => exact h.elim
    rename_i hk
    subst hk
    split at h
    case h_2 => exact h.elim
    rename_i l hl
    cases hR with
    | os _ _ _ _ _ oi A c p1 p2 p3 p4 p5 p6 =>
      have hk := arrOf_some hl
      obtain ⟨oi', h1, f1, f2, f3, _⟩ := hg.arr hk
      rw [p1] at h1
      injection h1 with h1
      subst h1
      exact dok_clear1 hg hu hT ho he hz hy hk p1 hex p3 (by omega) h
  · exact h.elim
end
end Go.Proofs.Ythjikjhddddplaa
