/-
  The machine over typed values, 8: operators, slices, literals. No program in sight.
-/
import Derived.Test.YthjikjhddddplaaMS3
namespace Go.Proofs.Ythjikjhddddplaa
set_option linter.unusedVariables false
set_option linter.unusedSimpArgs false
open Go.RowKit

section
variable {P : Program} {D : TD} {g : G} {st : St} {w : World} {n : Nat} {t : Tm} {a : Act} {o : Oper} {K X : Kn}

theorem dnil_ok {op : BinOp} {T0 U : TypeId} {x y : Operand} {e : TypeId} {A : Option Addr} {m c : Nat} {B : Option Addr} {c' : Nat} (hg : Good g st w) (ho : o.op = .binOp op T0 x y U) (hu : P.underlying T0 = some (.slice e)) (hx : a.eval x = .slice A m c) (hy : a.eval y = .slice B 0 c') (hA : m ≠ 0 → A.isNone = false) (hB : B = none)
    (hc' : c' = 0) (h : dnil op m fun v => K v st) : DOk P o a g st w K X := by
  subst hB; subst hc'
  have hR : ∀ b, (m ≠ 0 → A.isNone = false) → (b = A.isNone) → K (if m = 0 then .ub else .bool false) st → ∃ v, R g v (.bool b) ∧ K v st := fun b h1 h2 h3 => by
    by_cases hm : m = 0
    · rw [if_pos hm] at h3; exact ⟨_, .ub b, h3⟩
    · rw [if_neg hm] at h3; rw [h2, h1 hm]; exact ⟨_, .bool _, h3⟩
  have hR2 : ∀ b, (m ≠ 0 → A.isNone = false) → (b = !A.isNone) → K (if m = 0 then .ub else .bool true) st → ∃ v, R g v (.bool b) ∧ K v st := fun b h1 h2 h3 => by
    by_cases hm : m = 0
    · rw [if_pos hm] at h3; exact ⟨_, .ub b, h3⟩
    · rw [if_neg hm] at h3; rw [h2, h1 hm]; exact ⟨_, .bool _, h3⟩
  unfold dnil at h
  split at h
  · obtain ⟨v, v1, v2⟩ := hR A.isNone hA rfl (by by_cases hm : m = 0 <;> simpa [hm] using h)
    exact dok_quiet (x := .bool A.isNone) hg (run_bin ho hx hy guard_slice (by simp only [binOp, quiet_bind, quiet_nil' hu, Option.bind_some, quiet_pure])) v1 v2
  · obtain ⟨v, v1, v2⟩ := hR2 (!A.isNone) hA rfl (by by_cases hm : m = 0 <;> simpa [hm] using h)
    exact dok_quiet (x := .bool (!A.isNone)) hg (run_bin ho hx hy guard_slice (by simp only [binOp, quiet_bind, quiet_nil' hu, Option.bind_some, quiet_pure])) v1 v2
  · exact h.elim
theorem R_nilc {x : Operand} (ht : RelT g n t a) (hx : x = .const (.slice none 0 0)) : a.eval x = .slice none 0 0 := by subst hx; rfl
theorem dok_bin (hD : TDok P D) (hg : Good g st w) (ht : RelT g n t a) {op : BinOp} {T0 U : TypeId} {x y : Operand} (ho : o.op = .binOp op T0 x y U) {ti : TI} (hti : tyOf D T0 = some ti) (h : dbin op ti (ev t x) (ev t y) fun v => K v st) : DOk P o a g st w K X := by
  have hX := ht.ev x
  have hY := ht.ev y
  unfold dbin at h
  generalize hvx : ev t x = vx at hX h
  generalize hvy : ev t y = vy at hY h
  generalize hex : a.eval x = ex at hX
  generalize hey : a.eval y = ey at hY
  split at h
  · rename_i k p k' q
    cases hX; cases hY
    split at h
    · obtain ⟨h0, hK⟩ := h
      refine dok_quiet hg (run_bin ho hex hey guard_int ?_) (.int _ _) hK
      simp only [binOp, Op.shift]
      rw [if_neg (by omega)]; rfl
    · obtain ⟨h0, hK⟩ := h
      refine dok_quiet hg (run_bin ho hex hey guard_int ?_) (.int _ _) hK
      simp only [binOp, Op.shift]
      rw [if_neg (by omega)]; rfl
    · rename_i hs1 hs2
      split at h
      case h_2 => exact h.elim
      rename_i hk
      have hk := of_decide_eq_true hk
      subst hk
      have hrun : ∀ {v}, quiet P (binOp op T0 (.int k p) (.int k q)) = some v → quiet P (execOp a.eval o) = some (.value v) := fun h => run_bin ho hex hey guard_int h
      cases op
      case shl => exact absurd rfl hs1
      case shr => exact absurd rfl hs2
      case add => exact dok_quiet hg (hrun (by simp [binOp, Op.intArith])) (.int _ _) h
      case sub => exact dok_quiet hg (hrun (by simp [binOp, Op.intArith])) (.int _ _) h
      case mul => exact dok_quiet hg (hrun (by simp [binOp, Op.intArith])) (.int _ _) h
      case quo => obtain ⟨h0, hK⟩ := h; exact dok_quiet hg (hrun (by simp [binOp, Op.intDiv, h0])) (.int _ _) hK
      case rem => obtain ⟨h0, hK⟩ := h; exact dok_quiet hg (hrun (by simp [binOp, Op.intDiv, h0])) (.int _ _) hK
      case and => refine dok_quiet hg (hrun ?_) (.int _ _) h; simp only [binOp, ne_eq, not_true_eq_false, if_false]; exact bits_ok (by decide)
      case or => refine dok_quiet hg (hrun ?_) (.int _ _) h; simp only [binOp, ne_eq, not_true_eq_false, if_false]; exact bits_ok (by decide)
      case xor => refine dok_quiet hg (hrun ?_) (.int _ _) h; simp only [binOp, ne_eq, not_true_eq_false, if_false]; exact bits_ok (by decide)
      case andNot => refine dok_quiet hg (hrun ?_) (.int _ _) h; simp only [binOp, ne_eq, not_true_eq_false, if_false]; exact bits_ok (by decide)
      all_goals
        simp only [dcmp] at h
        refine dok_quiet hg (hrun ?_) (.bool _) h
        simp only [binOp, ne_eq, not_true_eq_false, if_false]
        exact cmp_ok rfl
  · rename_i p q
    cases hX; cases hY
    have key : P.underlying T0 = some .bool → ∀ d, quiet P (Op.equalIn (d + 1) T0 (.bool p) (.bool q)) = some (decide (p = q)) := fun hu d => by
      simp only [Op.equalIn, quiet_bind, quiet_under, hu, Option.bind_some, quiet_pure]; congr 1
    split at h
    · rename_i hs
      obtain ⟨d, h1, _, h3⟩ := (hD _ _ hti).under
      rw [hs] at h3
      refine dok_quiet hg (run_bin ho hex hey guard_bool ?_) (.bool _) h
      have := key (by rw [h1]; exact congrArg some h3) 9999
      simp only [binOp, quiet_bind, Op.equal]
      show (quiet P (Op.equalIn (9999 + 1) T0 (.bool p) (.bool q))).bind _ = _
      rw [this]; rfl
    · rename_i hs
      obtain ⟨d, h1, _, h3⟩ := (hD _ _ hti).under
      rw [hs] at h3
      refine dok_quiet hg (run_bin ho hex hey guard_bool ?_) (.bool _) h
      have := key (by rw [h1]; exact congrArg some h3) 9999
      simp only [binOp, quiet_bind, Op.equal]
      show (quiet P (Op.equalIn (9999 + 1) T0 (.bool p) (.bool q))).bind _ = _
      rw [this]; rfl
    · exact h.elim
  · rename_i p q
    cases hX; cases hY
    have hrun : ∀ {v}, quiet P (Op.stringOp op p q) = some v → quiet P (execOp a.eval o) = some (.value v) := fun h => run_bin ho hex hey guard_str (by cases op <;> first | exact h | (simp [Op.stringOp, stuck, quiet] at h; done))
    split at h
    · obtain ⟨hr, hK⟩ := h
      refine dok_quiet hg (hrun ?_) (.str _) hK
      simp only [Op.stringOp]
      rw [if_neg (by simp [IntKind.max, IntKind.signed, IntKind.bits]; omega)]; rfl
    · exact dok_quiet hg (hrun (by simp only [Op.stringOp, bytes_dec']; rfl)) (.bool _) h
    · exact dok_quiet hg (hrun (by simp only [Op.stringOp, bytes_dec']; rfl)) (.bool _) h
    · exact dok_quiet hg (hrun (by simp only [Op.stringOp]; rfl)) (.bool _) h
    · exact dok_quiet hg (hrun (by simp only [Op.stringOp, bytes_dec']; rfl)) (.bool _) h
    · exact dok_quiet hg (hrun (by simp only [Op.stringOp, bytes_dec']; rfl)) (.bool _) h
    · exact dok_quiet hg (hrun (by simp only [Op.stringOp]; rfl)) (.bool _) h
    · exact h.elim
  · rename_i xs ys
    have hX0 := hX
    have hY0 := hY
    cases hX; cases hY
    rename_i us k1 k2 k3 vs k4 k5 k6
    have hp : quiet P (program : Sem Program) = some P := rfl
    split at h
    · rename_i ks b hks hb
      split at h
      case h_2 => exact h.elim
      rename_i hl
      obtain ⟨e1, e2⟩ := (hD _ _ hti).eqs ks hks xs ys us vs g b (of_decide_eq_true hl) (by rwa [show eqKs ti = ks from by unfold eqKs; rw [hks]] at hb) hX0 hY0
      refine dok_quiet hg ?_ (.bool b) h
      simp only [execOp, ho, hex, hey, eqGuard, binOp, quiet_bind, Bool.not_true, Bool.false_eq_true, if_false, hp, Option.bind_some, e2, Bool.not_false, if_true, quiet_pure, e1]
    · rename_i ks b hks hb
      split at h
      case h_2 => exact h.elim
      rename_i hl
      obtain ⟨e1, e2⟩ := (hD _ _ hti).eqs ks hks xs ys us vs g b (of_decide_eq_true hl) (by rwa [show eqKs ti = ks from by unfold eqKs; rw [hks]] at hb) hX0 hY0
      refine dok_quiet hg ?_ (.bool (!b)) h
      simp only [execOp, ho, hex, hey, eqGuard, binOp, quiet_bind, Bool.not_true, Bool.false_eq_true, if_false, hp, Option.bind_some, e2, Bool.not_false, if_true, quiet_pure, e1]
    · exact h.elim
  · exact h.elim
theorem dok_binNil (hD : TDok P D) (hg : Good g st w) (ht : RelT g n t a) {op : BinOp} {T0 U : TypeId} {x y : Operand} (ho : o.op = .binOp op T0 x y U) {ti : TI} (hti : tyOf D T0 = some ti) (hy : y = .const (.slice none 0 0))
    (h : dbinNil op ti st (ev t x) fun v => K v st) : DOk P o a g st w K X := by
  have hX := ht.ev x
  unfold dbinNil at h
  generalize hvx : ev t x = vx at hX h
  generalize hex : a.eval x = ex at hX
  have hey : a.eval y = .slice none 0 0 := by subst hy; rfl
  obtain ⟨s1, s2, s3⟩ := slice_shape hg hX
  split at h
  case h_2 => exact h.elim
  rename_i e hs
  have hu := slice_under (hD _ _ hti) hs
  split at h
  · obtain ⟨A, c, rfl⟩ := s2 rfl
    exact dnil_ok hg ho hu hex hey (fun h => absurd rfl h) rfl rfl h
  · rename_i full e l
    obtain ⟨A, c, rfl, hA⟩ := s1 full e l rfl
    exact dnil_ok hg ho hu hex hey hA rfl rfl h
  · rename_i e k ver
    split at h
    · rename_i l hl
      obtain ⟨A, c, rfl, hA⟩ := s3 e k ver l rfl hl
      exact dnil_ok hg ho hu hex hey hA rfl rfl h
    · exact h.elim
  · exact h.elim
theorem dok_un (hg : Good g st w) (ht : RelT g n t a) {op : UnOp} {T0 : TypeId} {x : Operand} (ho : o.op = .unOp op T0 x) (h : dun op (ev t x) fun v => K v st) : DOk P o a g st w K X := by
  have hX := ht.ev x
  unfold dun at h
  generalize hvx : ev t x = vx at hX h
  generalize hex : a.eval x = ex at hX
  split at h
  · cases hX
    exact dok_quiet hg (by simp [execOp, ho, hex, Op.unary, quiet_bind]) (.bool _) h
  · cases hX
    exact dok_quiet hg (by simp [execOp, ho, hex, Op.unary, Op.intArith, quiet_bind]) (.int _ _) h
  · cases hX
    rename_i k m
    refine dok_quiet hg (v := .int k (bitsOf .xor k (match k.signed with | true => -1 | false => k.max) m)) (x := .int k (bitsOf .xor k (match k.signed with | true => -1 | false => k.max) m)) ?_ (.int _ _) h
    have : (if k.signed = true then (-1 : Int) else k.max) = match k.signed with | true => -1 | false => k.max := by cases k.signed <;> rfl
    simp only [execOp, ho, hex, Op.unary, this, quiet_bind, bits_ok (P := P) (op := .xor) (k := k) (p := match k.signed with | true => -1 | false => k.max) (q := m) (by simp), Option.bind_some, quiet_pure]
  · exact h.elim
theorem dok_conv (hD : TDok P D) (hg : Good g st w) (ht : RelT g n t a) {s d : TypeId} {x : Operand} (ho : o.op = .convert s d x) (h : dconv D s d st (ev t x) K) : DOk P o a g st w K X := by
  have hX := ht.ev x
  unfold dconv at h
  generalize hvx : ev t x = vx at hX h
  generalize hex : a.eval x = ex at hX
  split at h
  case h_2 => exact h.elim
  rename_i ta tb hta htb
  obtain ⟨da, a1, _, a3⟩ := (hD _ _ hta).under
  obtain ⟨db, b1, _, b3⟩ := (hD _ _ htb).under
  split at h
  · rename_i k' m k hb
    cases hX
    rw [hb] at b3
    simp only [srtOk] at b3
    subst b3
    exact dok_quiet hg (by simp [execOp, ho, hex, convert, quiet_bind, a1, b1, Conv.intToInt]) (.int _ _) h
  · rename_i c ha hb
    cases hX
    rw [ha] at a3
    rw [hb] at b3
    simp only [srtOk] at a3 b3
    subst a3; subst b3
    exact dok_quiet hg (by simp [execOp, ho, hex, convert, quiet_bind, a1, b1]) (.str _) h
  · exact h.elim

/-! ### Slices -/
theorem quiet_bound {k : IntKind} {m : Int} {y : Nat} (code : BoundsCode) (h0 : 0 ≤ m) (h1 : m ≤ (y : Int)) : quiet P (Instr.sliceBound (.int k m) y code) = some m.toNat := by
  simp [Instr.sliceBound, asIntOf, quiet_bind, h0, h1]
theorem optInt_some {x : Option Operand} (ht : RelT g n t a) {d : Int} {K : Int → Prop} (h : optInt (x.map (ev t)) d K) : ∃ m, K m ∧ ((x = none ∧ m = d) ∨ ∃ x' k, x = some x' ∧ a.eval x' = .int k m) := by
  cases x with
  | none => exact ⟨d, h, .inl ⟨rfl, rfl⟩⟩
  | some x =>
    obtain ⟨k, m, h1, h2⟩ := asInt_some h
    exact ⟨m, h2, .inr ⟨x, k, rfl, R_int (by have := ht.ev x; rw [h1] at this; exact this)⟩⟩
/-- The bounds of a slice expression. -/
theorem bounds_ok {lo hi : Option Operand} {len cap : Nat} {l h : Int} (b : Bool) (hc : len ≤ cap) (h0 : 0 ≤ l) (h1 : l ≤ h) (h2 : h ≤ (len : Int)) (hl : (lo = none ∧ l = 0) ∨ ∃ x k, lo = some x ∧ a.eval x = .int k l) (hh : (hi = none ∧ h = len) ∨ ∃ x k, hi = some x ∧ a.eval x = .int k h) :
    quiet P (Instr.sliceBounds b len cap (lo.map a.eval) (hi.map a.eval) none) = some (l.toNat, h.toNat, cap) := by
  have kh : ∀ x k, hi = some x → a.eval x = .int k h → ∀ code, quiet P (Instr.sliceBound (a.eval x) cap code) = some h.toNat := fun x k e e' code => by rw [e']; exact quiet_bound code (by omega) (by omega)
  have kl : ∀ x k, lo = some x → a.eval x = .int k l → ∀ code, quiet P (Instr.sliceBound (a.eval x) h.toNat code) = some l.toNat := fun x k e e' code => by rw [e']; exact quiet_bound code (by omega) (by omega)
  rcases hh with ⟨rfl, rfl⟩ | ⟨x, k, rfl, hx⟩ <;> rcases hl with ⟨rfl, rfl⟩ | ⟨y, k', rfl, hy⟩
  · simp [Instr.sliceBounds, quiet_bind]
  · have := kl y k' rfl hy
    simp only [Int.toNat_natCast] at this
    simp [Instr.sliceBounds, quiet_bind, this]
  · simp [Instr.sliceBounds, quiet_bind, kh x k rfl hx]
  · simp [Instr.sliceBounds, quiet_bind, kh x k rfl hx, kl y k' rfl hy]
theorem bounds3_ok {lo : Option Operand} {hi mx : Operand} {len cap : Nat} {l h m : Int} {k1 k2 : IntKind} (hc : len ≤ cap) (h0 : 0 ≤ l) (h1 : l ≤ h) (h2 : h ≤ m) (h3 : m ≤ (len : Int)) (hl : (lo = none ∧ l = 0) ∨ ∃ x k, lo = some x ∧ a.eval x = .int k l) (hh : a.eval hi = .int k1 h) (hm : a.eval mx = .int k2 m) :
    quiet P (Instr.sliceBounds true len cap (lo.map a.eval) (some (a.eval hi)) (some (a.eval mx))) = some (l.toNat, h.toNat, m.toNat) := by
  have km : ∀ code, quiet P (Instr.sliceBound (a.eval mx) cap code) = some m.toNat := fun code => by rw [hm]; exact quiet_bound code (by omega) (by omega)
  have kh : ∀ code, quiet P (Instr.sliceBound (a.eval hi) m.toNat code) = some h.toNat := fun code => by rw [hh]; exact quiet_bound code (by omega) (by omega)
  rcases hl with ⟨rfl, rfl⟩ | ⟨y, k', rfl, hy⟩
  · simp [Instr.sliceBounds, quiet_bind, km, kh]
  · have kl : ∀ code, quiet P (Instr.sliceBound (a.eval y) h.toNat code) = some l.toNat := fun code => by rw [hy]; exact quiet_bound code (by omega) (by omega)
    simp [Instr.sliceBounds, quiet_bind, km, kh, kl]
/-- A part of a slice that is only read. -/
theorem R_sub {full full' : Bool} {e : El} {xs : List (ty e)} {A : Option Addr} {k c l h m : Nat} (hR : R g (.sl full e xs) (.slice A k c)) (hlh : l ≤ h) (hhl : h ≤ xs.length) (hhm : h ≤ m) (hmc : m ≤ c) (hf : full' = true → h = m) :
    R g (.sl full' e ((xs.take h).drop l)) (.slice (if m = l then A else A.map (·.add (l * sz e))) (h - l) (m - l)) := by
  cases hR with
  | sl _ _ _ _ _ h1 h2 h3 h4 =>
    have hlen : ((xs.take h).drop l).length = h - l := by simp; omega
    rw [← hlen]
    refine .sl full' e _ _ _ (by omega) (by omega) (fun e => by have := hf e; omega) fun hne => ?_
    have hlt : l < h := by
      rcases Nat.lt_or_ge l h with h5 | h5
      · exact h5
      · exfalso; apply hne; apply List.eq_nil_of_length_eq_zero; omega
    obtain ⟨b, off, cs, rfl, hro, henc⟩ := h4 (by rintro rfl; simp at hhl; omega)
    rw [if_neg (by omega)]
    refine ⟨b, off + l * sz e, cs, by simp [Addr.add_lit], hro, ?_⟩
    rw [hlen, ← encs_drop, ← encs_take, ← henc, List.take_take, List.drop_take, List.drop_drop]
    have : h * sz e ≤ xs.length * sz e := Nat.mul_le_mul_right _ hhl
    rw [Nat.min_eq_left this, Nat.sub_mul]
theorem R_slshape {full : Bool} {e : El} {l : List (ty e)} {x : Value} (h : R g (.sl full e l) x) : ∃ A c, x = .slice A l.length c ∧ l.length ≤ c ∧ c ≤ maxLen ∧ (full = true → c = l.length) := by
  cases h with
  | sl _ _ _ A c h1 h2 h3 h4 => exact ⟨A, c, rfl, h1, h2, h3⟩
theorem dok_slice (hD : TDok P D) (hg : Good g st w) (ht : RelT g n t a) {T0 : TypeId} {x : Operand} {lo hi mx : Option Operand} (ho : o.op = .slice T0 x lo hi mx) {ti : TI} (hti : tyOf D T0 = some ti)
    (h : dsl D ti T0 st (ev t x) (lo.map (ev t)) (hi.map (ev t)) (mx.map (ev t)) fun v => K v st) : DOk P o a g st w K X := by
  have hR := ht.ev x
  generalize hv : ev t x = xv at hR h
  generalize he : a.eval x = ex at hR
  unfold dsl at h
  split at h
  · rename_i hs
    have hu := str_under (hD _ _ hti) hs
    cases mx with
    | some mx => cases xv <;> exact h.elim
    | none =>
    cases xv <;> (try exact h.elim)
    rename_i b
    cases hR
    obtain ⟨hh, h, h1⟩ := optInt_some ht h
    obtain ⟨l, h, h2⟩ := optInt_some ht h
    obtain ⟨q0, q1, q2, hK⟩ := h
    have := bounds_ok (P := P) false (Nat.le_refl _) q0 q1 q2 h2 h1
    exact dok_quiet hg (by simp [execOp, ho, Instr.sliceAt, Instr.slice, he, quiet_bind, hu, this]) (.str _) hK
  · rename_i te hs
    have hu := slice_under (hD _ _ hti) hs
    split at h
    case h_2 => exact h.elim
    rename_i e0 hk
    obtain ⟨t', i, hu', hi1, hsz⟩ := kind_some hD hk
    rw [hu] at hu'
    injection hu' with hu'
    injection hu' with hu'
    subst hu'
    unfold dslice at h
    cases mx with
    | some mx =>
      simp only [Option.map_some] at h
      cases hi with
      | none => exact h.elim
      | some hi =>
        simp only [Option.map_some] at h
        split at h
        · rename_i full e xs
          split at h
          case isFalse => exact h.elim
          rename_i he0
          subst he0
          obtain ⟨k1, m, hm, h⟩ := asInt_some h
          have hm' := R_int (by have := ht.ev mx; rw [hm] at this; exact this)
          obtain ⟨l, h, h2⟩ := optInt_some ht h
          obtain ⟨k2, r, hr, h⟩ := asInt_some h
          have hr' := R_int (by have := ht.ev hi; rw [hr] at this; exact this)
          obtain ⟨q0, q1, q2, q3, hK⟩ := h
          obtain ⟨A, c, rfl, p1, p2, p3⟩ := R_slshape hR
          have := bounds3_ok (P := P) (len := xs.length) (cap := c) p1 q0 q1 (by omega) q3 h2 hr' hm'
          refine dok_quiet (x := .slice (if m.toNat = l.toNat then A else A.map (·.add (l.toNat * sz e0))) (r.toNat - l.toNat) (m.toNat - l.toNat)) hg ?_ (R_sub hR (by omega) (by omega) (by omega) (by omega) (fun _ => by omega)) hK
          simp [execOp, ho, Instr.sliceAt, Instr.slice, he, quiet_bind, hu, this, hi1, hsz]
        · obtain ⟨k1, m, hm, h⟩ := asInt_some h
          have hm' := R_int (by have := ht.ev mx; rw [hm] at this; exact this)
          obtain ⟨l, h, h2⟩ := optInt_some ht h
          obtain ⟨k2, r, hr, h⟩ := asInt_some h
          have hr' := R_int (by have := ht.ev hi; rw [hr] at this; exact this)
          obtain ⟨q0, q1, q2, hK⟩ := h
          subst q0; subst q1; subst q2
          cases hR with
          | nil A =>
            have := bounds3_ok (P := P) (len := 0) (cap := 0) (l := 0) (h := 0) (m := 0) (Nat.le_refl _) (by omega) (by omega) (by omega) (by simp) h2 hr' hm'
            refine dok_quiet (x := .slice A 0 0) hg ?_ (.nil A) hK
            simp only [Int.toNat_zero] at this
            simp [execOp, ho, Instr.sliceAt, Instr.slice, he, quiet_bind, hu, this, hi1]
        · exact h.elim
    | none =>
      simp only [Option.map_none] at h
      split at h
      · rename_i full e xs
        split at h
        case isFalse => exact h.elim
        rename_i he0
        subst he0
        obtain ⟨A, c, rfl, p1, p2, p3⟩ := R_slshape hR
        cases hi with
        | some hi =>
          simp only [Option.map_some] at h
          obtain ⟨k2, r, hr, h⟩ := asInt_some h
          have hr' := R_int (by have := ht.ev hi; rw [hr] at this; exact this)
          obtain ⟨l, h, h2⟩ := optInt_some ht h
          obtain ⟨q0, q1, q2, hK⟩ := h
          have := bounds_ok (P := P) (hi := some hi) true p1 q0 q1 q2 h2 (.inr ⟨hi, k2, rfl, hr'⟩)
          simp only [Option.map_some] at this
          refine dok_quiet (x := .slice (if c = l.toNat then A else A.map (·.add (l.toNat * sz e0))) (r.toNat - l.toNat) (c - l.toNat)) hg ?_ (R_sub hR (by omega) (by omega) (by omega) (Nat.le_refl _) (by simp)) hK
          simp [execOp, ho, Instr.sliceAt, Instr.slice, he, quiet_bind, hu, this, hi1, hsz]
        | none =>
          simp only [Option.map_none] at h
          obtain ⟨l, h, h2⟩ := optInt_some ht h
          obtain ⟨q0, q1, hK⟩ := h
          have := bounds_ok (P := P) (hi := none) (h := (xs.length : Int)) true p1 q0 q1 (by omega) h2 (.inl ⟨rfl, rfl⟩)
          simp only [Option.map_none, Int.toNat_natCast] at this
          have hsub := R_sub (full' := full) (l := l.toNat) (h := xs.length) (m := c) hR (by omega) (Nat.le_refl _) p1 (Nat.le_refl _) (fun e => (p3 e).symm)
          rw [List.take_of_length_le (Nat.le_refl _)] at hsub
          refine dok_quiet (x := .slice (if c = l.toNat then A else A.map (·.add (l.toNat * sz e0))) (xs.length - l.toNat) (c - l.toNat)) hg ?_ hsub hK
          simp [execOp, ho, Instr.sliceAt, Instr.slice, he, quiet_bind, hu, this, hi1, hsz]
      · obtain ⟨r, h, h1⟩ := optInt_some ht h
        obtain ⟨l, h, h2⟩ := optInt_some ht h
        obtain ⟨q0, q1, hK⟩ := h
        subst q0; subst q1
        cases hR with
        | nil A =>
          have := bounds_ok (P := P) (len := 0) (cap := 0) (l := 0) (h := 0) true (Nat.le_refl _) (by omega) (by omega) (by simp) h2 h1
          simp only [Int.toNat_zero] at this
          refine dok_quiet (x := .slice A 0 0) hg ?_ (.nil A) hK
          simp [execOp, ho, Instr.sliceAt, Instr.slice, he, quiet_bind, hu, this, hi1]
      · rename_i e k ver
        split at h
        case isFalse => exact h.elim
        rename_i he0
        subst he0
        split at h
        case h_2 => exact h.elim
        rename_i xs hl
        obtain ⟨r, h, h1⟩ := optInt_some ht h
        obtain ⟨l, h, h2⟩ := optInt_some ht h
        obtain ⟨q0, q1, q2, hK⟩ := h
        cases hR with
        | oa _ _ _ oi A p1 p2 p3 p4 =>
          obtain ⟨oi', a1, a2, _⟩ := hg.arr (arrOf_some hl)
          rw [p1] at a1
          injection a1 with a1
          subst a1
          rw [← a2] at q2 h1
          have := bounds_ok (P := P) true p3 q0 q1 q2 h2 h1
          refine dok_quiet (x := .slice (if oi.cap = l.toNat then A else A.map (·.add (l.toNat * sz e0))) (r.toNat - l.toNat) (oi.cap - l.toNat)) hg ?_ (.os e0 k ver _ _ oi _ _ p1 (by omega) (fun hn => ?_) (by omega) (by omega) p3) hK
          · simp [execOp, ho, Instr.sliceAt, Instr.slice, he, quiet_bind, hu, this, hi1, hsz]
          · rw [if_neg (by omega), p2 (by omega)]
            simp [Addr.add_lit]
      · rename_i e k ver off m
        split at h
        case isFalse => exact h.elim
        rename_i he0
        subst he0
        obtain ⟨r, h, h1⟩ := optInt_some ht h
        obtain ⟨l, h, h2⟩ := optInt_some ht h
        obtain ⟨q0, q1, q2, hK⟩ := h
        cases hR with
        | os _ _ _ _ _ oi A c p1 p2 p3 p4 p5 p6 =>
          have := bounds_ok (P := P) true p4 q0 q1 q2 h2 h1
          refine dok_quiet (x := .slice (if c = l.toNat then A else A.map (·.add (l.toNat * sz e0))) (r.toNat - l.toNat) (c - l.toNat)) hg ?_ (.os e0 k ver _ _ oi _ _ p1 (by omega) (fun hn => ?_) (by omega) (by omega) p6) hK
          · simp [execOp, ho, Instr.sliceAt, Instr.slice, he, quiet_bind, hu, this, hi1, hsz]
          · rw [if_neg (by omega), p3 (by omega)]
            simp [Addr.add_lit, Nat.add_mul]
      · exact h.elim
  · exact h.elim
end
end Go.Proofs.Ythjikjhddddplaa
