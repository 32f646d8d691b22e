/-
  The machine over typed values, 16: each operation has one outcome. No program in sight.
-/
import Derived.Test.YthjikjhddddplaaMC
import Derived.OrdersHeld
namespace Go.Proofs.Ythjikjhddddplaa
set_option linter.unusedVariables false
set_option linter.unusedSimpArgs false
open Go.RowKit

def isApp : Builtin → Bool
  | .append => true
  | .clear => true
  | _ => false
/-- May an operation write? -/
def wrOp (mu : FuncId → Bool) (op : Op) (ρ : Operand → T) : Bool :=
  match op with
  | .store .. => true
  | .call { callee := .builtin b, args := _, argTypes := _ } => isApp b
  | .call { callee := .value f, args := args, argTypes := _ } => match tgt (ρ f) (args.toList.map ρ) with
    | some (g, _) => mu g
    | none => false
  | _ => false
/-- One outcome, whoever asks. -/
def Det (w : Bool) (s : St) (F : (T → St → Prop) → Prop) (K : Kn) : Prop :=
  ∃ v s', K v s' ∧ (∀ K' : Kn, K' v s' → F K') ∧ (s' = s ∨ (∃ o, s' = s ++ [some o]) ∨ (w = true ∧ s'.length = s.length))
abbrev GamDet (mu : FuncId → Bool) (Γ : Gam) : Prop := ∀ f vs s K, Γ f vs s K (fun _ _ => False) → Det (mu f) s (fun K => Γ f vs s K fun _ _ => False) K
theorem Det.same {w : Bool} {s : St} {F : (T → St → Prop) → Prop} {K : Kn} {v : T} (h : K v s) (hF : ∀ K' : Kn, K' v s → F K') : Det w s F K := ⟨v, s, h, hF, .inl rfl⟩
theorem Det.new {w : Bool} {s : St} {F : (T → St → Prop) → Prop} {K : Kn} {v : T} {o : Ob} (h : K v (s ++ [some o])) (hF : ∀ K' : Kn, K' v (s ++ [some o]) → F K') : Det w s F K := ⟨v, _, h, hF, .inr (.inl ⟨o, rfl⟩)⟩
theorem Det.upd {s : St} {F : (T → St → Prop) → Prop} {K : Kn} {v : T} {k : Nat} {o : Ob} (h : K v (s.set k (some o))) (hF : ∀ K' : Kn, K' v (s.set k (some o)) → F K') : Det true s F K := ⟨v, _, h, hF, .inr (.inr ⟨rfl, by simp⟩)⟩
/-- One outcome of a value alone. -/
def Det1 (F : (T → Prop) → Prop) (K : T → Prop) : Prop := ∃ v, K v ∧ ∀ K' : T → Prop, K' v → F K'
theorem Det1.mk {F : (T → Prop) → Prop} {K : T → Prop} {v : T} (h : K v) (hF : ∀ K' : T → Prop, K' v → F K') : Det1 F K := ⟨v, h, hF⟩
theorem Det1.lift {w : Bool} {s : St} {F : (T → Prop) → Prop} {K : Kn} (h : Det1 F fun v => K v s) : Det w s (fun K => F fun v => K v s) K := by
  obtain ⟨v, h1, h2⟩ := h
  exact Det.same h1 fun K' h' => h2 (fun v => K' v s) h'

section
variable {D : TD} {K : T → Prop}
theorem det_subRow {agg : Bool} {size : Nat} {cs : List T} {off : Nat} (h : subRow agg size cs off K) : Det1 (subRow agg size cs off) K := by
  unfold subRow at h
  cases agg with
  | true =>
    simp only at h
    split at h
    · rename_i hd
      exact .mk h fun K' h' => by simp only [subRow, hd]; exact h'
    · exact h.elim
  | false =>
    simp only at h
    split at h
    · rename_i u hu
      exact .mk h fun K' h' => by simp only [subRow, hu]; exact h'
    · exact h.elim
theorem det_load {ti : TI} {s : St} {a : T} (h : dload ti s a K) : Det1 (dload ti s a) K := by
  unfold dload at h
  split at h
  · split at h
    · rename_i cs hr
      obtain ⟨v, h1, h2⟩ := det_subRow h
      exact .mk h1 fun K' h' => by simp only [dload, hr]; exact h2 K' h'
    · exact h.elim
  · obtain ⟨v, h1, h2⟩ := det_subRow h
    exact .mk h1 fun K' h' => h2 K' h'
  · split at h
    · rename_i l hl
      obtain ⟨x, hx, h⟩ := h
      obtain ⟨v, h1, h2⟩ := det_subRow h
      exact .mk h1 fun K' h' => by simp only [dload, hl]; exact ⟨x, hx, h2 K' h'⟩
    · exact h.elim
  · exact h.elim
theorem det_asInt {v : T} {K : Int → Prop} (h : asInt v K) : ∃ n, K n ∧ ∀ K' : Int → Prop, K' n → asInt v K' := by
  obtain ⟨k, n, rfl, h⟩ := asInt_some h
  exact ⟨n, h, fun _ h => h⟩
theorem det_optInt {v : Option T} {d : Int} {K : Int → Prop} (h : optInt v d K) : ∃ n, K n ∧ ∀ K' : Int → Prop, K' n → optInt v d K' := by
  cases v with
  | none => exact ⟨d, h, fun _ h => h⟩
  | some v => exact det_asInt h
theorem det_dslice {e0 : El} {s : St} {x : T} {lo hi mx : Option T} (h : dslice e0 s x lo hi mx K) : Det1 (dslice e0 s x lo hi mx) K := by
  unfold dslice at h
  split at h
  · split at h
    · split at h
      · split at h
        case isFalse => exact h.elim
        rename_i he
        obtain ⟨m, h, k1⟩ := det_asInt h
        obtain ⟨l, h, k2⟩ := det_optInt h
        obtain ⟨r, h, k3⟩ := det_asInt h
        obtain ⟨q0, q1, q2, q3, h⟩ := h
        exact .mk h fun K' h' => by simp only [dslice, he, if_true]; exact k1 _ (k2 _ (k3 _ ⟨q0, q1, q2, q3, h'⟩))
      · obtain ⟨m, h, k1⟩ := det_asInt h
        obtain ⟨l, h, k2⟩ := det_optInt h
        obtain ⟨r, h, k3⟩ := det_asInt h
        obtain ⟨q0, q1, q2, h⟩ := h
        exact .mk h fun K' h' => k1 _ (k2 _ (k3 _ ⟨q0, q1, q2, h'⟩))
      · exact h.elim
    · exact h.elim
  · split at h
    · split at h
      case isFalse => exact h.elim
      rename_i he
      split at h
      · obtain ⟨r, h, k3⟩ := det_asInt h
        obtain ⟨l, h, k2⟩ := det_optInt h
        obtain ⟨q0, q1, q2, h⟩ := h
        exact .mk h fun K' h' => by simp only [dslice, he, if_true]; exact k3 _ (k2 _ ⟨q0, q1, q2, h'⟩)
      · obtain ⟨l, h, k2⟩ := det_optInt h
        obtain ⟨q0, q1, h⟩ := h
        exact .mk h fun K' h' => by simp only [dslice, he, if_true]; exact k2 _ ⟨q0, q1, h'⟩
    · obtain ⟨r, h, k3⟩ := det_optInt h
      obtain ⟨l, h, k2⟩ := det_optInt h
      obtain ⟨q0, q1, h⟩ := h
      exact .mk h fun K' h' => k3 _ (k2 _ ⟨q0, q1, h'⟩)
    · split at h
      case isFalse => exact h.elim
      rename_i he
      split at h
      · rename_i xs hl
        obtain ⟨r, h, k3⟩ := det_optInt h
        obtain ⟨l, h, k2⟩ := det_optInt h
        obtain ⟨q0, q1, q2, h⟩ := h
        exact .mk h fun K' h' => by simp only [dslice, he, if_true, hl]; exact k3 _ (k2 _ ⟨q0, q1, q2, h'⟩)
      · exact h.elim
    · split at h
      case isFalse => exact h.elim
      rename_i he
      obtain ⟨r, h, k3⟩ := det_optInt h
      obtain ⟨l, h, k2⟩ := det_optInt h
      obtain ⟨q0, q1, q2, h⟩ := h
      exact .mk h fun K' h' => by simp only [dslice, he, if_true]; exact k3 _ (k2 _ ⟨q0, q1, q2, h'⟩)
    · exact h.elim
theorem det_dsl {ti : TI} {t : TypeId} {s : St} {x : T} {lo hi mx : Option T} (h : dsl D ti t s x lo hi mx K) : Det1 (dsl D ti t s x lo hi mx) K := by
  unfold dsl at h
  split at h
  · rename_i hs
    split at h
    · rename_i b
      obtain ⟨r, h, k3⟩ := det_optInt h
      obtain ⟨l, h, k2⟩ := det_optInt h
      obtain ⟨q0, q1, q2, h⟩ := h
      exact .mk h fun K' h' => by simp only [dsl, hs]; exact k3 _ (k2 _ ⟨q0, q1, q2, h'⟩)
    · exact h.elim
  · rename_i e hs
    split at h
    · rename_i e0 he
      obtain ⟨v, h1, h2⟩ := det_dslice h
      exact .mk h1 fun K' h' => by simp only [dsl, hs, he]; exact h2 K' h'
    · exact h.elim
  · exact h.elim
theorem det_nil {op : BinOp} {n : Nat} (h : dnil op n K) : Det1 (dnil op n) K := by
  unfold dnil at h
  split at h
  · by_cases e : n = 0
    · simp only [e, decide_true, cond_true] at h
      exact .mk h fun K' h' => by simp only [dnil, e, decide_true, cond_true]; exact h'
    · simp only [e, decide_false, cond_false] at h
      exact .mk h fun K' h' => by simp only [dnil, e, decide_false, cond_false]; exact h'
  · by_cases e : n = 0
    · simp only [e, decide_true, cond_true] at h
      exact .mk h fun K' h' => by simp only [dnil, e, decide_true, cond_true]; exact h'
    · simp only [e, decide_false, cond_false] at h
      exact .mk h fun K' h' => by simp only [dnil, e, decide_false, cond_false]; exact h'
  · exact h.elim
theorem det_binNil {op : BinOp} {ti : TI} {s : St} {x : T} (h : dbinNil op ti s x K) : Det1 (dbinNil op ti s x) K := by
  unfold dbinNil at h
  split at h
  case h_2 => exact h.elim
  rename_i e hs
  split at h
  · obtain ⟨v, h1, h2⟩ := det_nil h
    exact .mk h1 fun K' h' => by simp only [dbinNil, hs]; exact h2 K' h'
  · obtain ⟨v, h1, h2⟩ := det_nil h
    exact .mk h1 fun K' h' => by simp only [dbinNil, hs]; exact h2 K' h'
  · split at h
    · rename_i l hl
      obtain ⟨v, h1, h2⟩ := det_nil h
      exact .mk h1 fun K' h' => by simp only [dbinNil, hs, hl]; exact h2 K' h'
    · exact h.elim
  · exact h.elim
theorem det_bin {op : BinOp} {ti : TI} {x y : T} (h : dbin op ti x y K) : Det1 (dbin op ti x y) K := by
  unfold dbin at h
  split at h
  · rename_i k p k' q
    split at h
    · exact .mk h.2 fun K' h' => ⟨h.1, h'⟩
    · exact .mk h.2 fun K' h' => ⟨h.1, h'⟩
    · rename_i hs1 hs2
      split at h
      case h_2 => exact h.elim
      rename_i hk
      cases op
      case shl => exact absurd rfl hs1
      case shr => exact absurd rfl hs2
      case quo => exact .mk h.2 fun K' h' => by simp only [dbin, hk]; exact ⟨h.1, h'⟩
      case rem => exact .mk h.2 fun K' h' => by simp only [dbin, hk]; exact ⟨h.1, h'⟩
      all_goals exact .mk h fun K' h' => by simp only [dbin, hk]; exact h'
  · split at h
    · rename_i hs; exact .mk h fun K' h' => by simp only [dbin, hs]; exact h'
    · rename_i hs; exact .mk h fun K' h' => by simp only [dbin, hs]; exact h'
    · exact h.elim
  · split at h
    · exact .mk h.2 fun K' h' => ⟨h.1, h'⟩
    · exact .mk h fun K' h' => h'
    · exact .mk h fun K' h' => h'
    · exact .mk h fun K' h' => h'
    · exact .mk h fun K' h' => h'
    · exact .mk h fun K' h' => h'
    · exact .mk h fun K' h' => h'
    · exact h.elim
  · split at h
    · rename_i n b hn hb
      split at h
      · rename_i hl; exact .mk h fun K' h' => by simp only [dbin, hn, hb, hl]; exact h'
      · exact h.elim
    · rename_i n b hn hb
      split at h
      · rename_i hl; exact .mk h fun K' h' => by simp only [dbin, hn, hb, hl]; exact h'
      · exact h.elim
    · exact h.elim
  · exact h.elim
theorem det_un {op : UnOp} {x : T} (h : dun op x K) : Det1 (dun op x) K := by
  unfold dun at h
  split at h
  · exact .mk h fun K' h' => h'
  · exact .mk h fun K' h' => h'
  · exact .mk h fun K' h' => h'
  · exact h.elim
theorem det_fieldAddr {t : TypeId} {x : T} {f : Nat} (h : dfieldAddr D t x f K) : Det1 (dfieldAddr D t x f) K := by
  unfold dfieldAddr at h
  split at h
  case h_2 => exact h.elim
  rename_i off te hf
  split at h
  · exact h.elim
  rename_i m hm
  split at h
  · exact .mk h fun K' h' => by simp only [dfieldAddr, hf, hm]; exact h'
  · exact .mk h fun K' h' => by simp only [dfieldAddr, hf, hm]; exact h'
  · exact .mk h fun K' h' => by simp only [dfieldAddr, hf, hm]; exact h'
  · exact h.elim
theorem det_field {t : TypeId} {x : T} {f : Nat} (h : dfield D t x f K) : Det1 (dfield D t x f) K := by
  unfold dfield at h
  split at h
  case h_2 => exact h.elim
  rename_i off te hf
  split at h
  · obtain ⟨v, h1, h2⟩ := det_subRow h
    exact .mk h1 fun K' h' => by simp only [dfield, hf]; exact h2 K' h'
  · exact h.elim
theorem det_indexAddr {t : TypeId} {s : St} {x i : T} (h : dindexAddr D t s x i K) : Det1 (dindexAddr D t s x i) K := by
  unfold dindexAddr at h
  split at h
  case h_2 => exact h.elim
  split at h
  · split at h
    case isFalse => exact h.elim
    rename_i hk
    obtain ⟨h0, u, hu, h⟩ := h
    exact .mk h fun K' h' => by simp only [dindexAddr, hk, if_true]; exact ⟨h0, u, hu, h'⟩
  · split at h
    case isFalse => exact h.elim
    rename_i hk
    split at h
    case h_2 => exact h.elim
    rename_i l hl
    exact .mk h.2.2 fun K' h' => by simp only [dindexAddr, hk, if_true, hl]; exact ⟨h.1, h.2.1, h'⟩
  · split at h
    case isFalse => exact h.elim
    rename_i hk
    split at h
    case h_2 => exact h.elim
    rename_i l hl
    exact .mk h.2.2 fun K' h' => by simp only [dindexAddr, hk, if_true, hl]; exact ⟨h.1, h.2.1, h'⟩
  · split at h
    case h_2 => exact h.elim
    rename_i ti hti
    split at h
    case h_2 => exact h.elim
    rename_i m e hs
    split at h
    case h_2 => exact h.elim
    rename_i te hte
    exact .mk h.2.2 fun K' h' => by simp only [dindexAddr, hti, hs, hte]; exact ⟨h.1, h.2.1, h'⟩
  · exact h.elim
theorem det_index {t : TypeId} {x i : T} (h : dindex D t x i K) : Det1 (dindex D t x i) K := by
  unfold dindex at h
  split at h
  case h_2 => exact h.elim
  split at h
  case h_2 => exact h.elim
  rename_i ti hti
  split at h
  · rename_i s hs
    obtain ⟨h0, b, hb, h⟩ := h
    exact .mk h fun K' h' => by simp only [dindex, hti, hs]; exact ⟨h0, b, hb, h'⟩
  · rename_i m e cs hs
    split at h
    case h_2 => exact h.elim
    rename_i te hte
    obtain ⟨v, h1, h2⟩ := det_subRow h.2.2
    exact .mk h1 fun K' h' => by simp only [dindex, hti, hs, hte]; exact ⟨h.1, h.2.1, h2 K' h'⟩
  · exact h.elim
theorem det_build {t : TypeId} {ps : List (Nat × T)} (h : dbuild D t ps K) : Det1 (dbuild D t ps) K := by
  unfold dbuild at h
  split at h
  case h_2 => exact h.elim
  rename_i ti hti
  split at h
  case h_2 => exact h.elim
  rename_i z pl hag hz hpl
  split at h
  case h_2 => exact h.elim
  rename_i cs hcs
  exact .mk h fun K' h' => by simp only [dbuild, hti, hag, hz, hpl, hcs]; exact h'
theorem det_buildSlice {t : TypeId} {len : Nat} {ps : List (Nat × T)} (h : dbuildSlice D t len ps K) : Det1 (dbuildSlice D t len ps) K := by
  unfold dbuildSlice at h
  split at h
  · split at h
    case h_2 => exact h.elim
    rename_i hti
    split at h
    case h_2 => exact h.elim
    rename_i hs
    exact .mk h fun K' h' => by simp only [dbuildSlice, hti, hs]; exact h'
  · split at h
    case h_2 => exact h.elim
    rename_i ti hti
    split at h
    case h_2 => exact h.elim
    rename_i te' hs
    split at h
    case h_2 => exact h.elim
    rename_i te hte
    split at h
    case h_2 => exact h.elim
    rename_i z e hz he
    split at h
    case h_2 => exact h.elim
    rename_i hle
    split at h
    case h_2 => exact h.elim
    rename_i cs hcs
    split at h
    case h_2 => exact h.elim
    rename_i l hl
    exact .mk h fun K' h' => by simp only [dbuildSlice, hti, hs, hte, hz, he, hle, hcs, hl]; exact h'
theorem det_elems {s : St} {e : El} {v : T} {K : List (ty e) → Prop} (h : elems s e v K) : ∃ l, K l ∧ ∀ K' : List (ty e) → Prop, K' l → elems s e v K' := by
  unfold elems at h
  split at h
  · exact ⟨_, h, fun _ h => h⟩
  · split at h
    case isFalse => exact h.elim
    rename_i he
    exact ⟨_, h, fun K' h' => by simp only [elems, he]; exact h'⟩
  · split at h
    case isFalse => exact h.elim
    rename_i he
    split at h
    case h_2 => exact h.elim
    rename_i l hl
    exact ⟨_, h, fun K' h' => by simp only [elems, he, if_true, hl]; exact h'⟩
  · split at h
    case isFalse => exact h.elim
    rename_i he
    split at h
    case h_2 => exact h.elim
    rename_i l hl
    exact ⟨_, h, fun K' h' => by simp only [elems, he, if_true, hl]; exact h'⟩
  · exact h.elim
theorem det_append {ti : TI} {s : St} {x y : T} {K : Kn} (h : dappend ti s x y K) : Det true s (dappend ti s x y) K := by
  unfold dappend at h
  split at h
  case h_2 => exact h.elim
  rename_i e he
  obtain ⟨m, h, k1⟩ := det_elems h
  split at h
  · exact .new h.2 fun K' h' => by simp only [dappend, he]; exact k1 _ ⟨h.1, h'⟩
  · split at h
    case isFalse => exact h.elim
    rename_i he'
    exact .new h.2.2 fun K' h' => by simp only [dappend, he]; exact k1 _ (by simp only [he']; exact ⟨h.1, h.2.1, h'⟩)
  · split at h
    case isFalse => exact h.elim
    rename_i he'
    split at h
    case h_2 => exact h.elim
    rename_i l hl
    exact .upd h.2 fun K' h' => by simp only [dappend, he]; exact k1 _ (by simp only [he', if_true, hl]; exact ⟨h.1, h'⟩)
  · exact h.elim
theorem det_lenT {s : St} {v : T} {K : Nat → Prop} (h : lenT s v K) : ∃ n, K n ∧ ∀ K' : Nat → Prop, K' n → lenT s v K' := by
  unfold lenT at h
  split at h
  · exact ⟨_, h, fun _ h => h⟩
  · exact ⟨_, h, fun _ h => h⟩
  · split at h
    case h_2 => exact h.elim
    rename_i l hl
    exact ⟨_, h, fun K' h' => by simp only [lenT, hl]; exact h'⟩
  · exact ⟨_, h, fun _ h => h⟩
  · exact h.elim
theorem det_store {ti : TI} {s : St} {a v : T} {K : St → Prop} (h : dstore ti s a v K) : ∃ k o, K (s.set k (some o)) ∧ ∀ K' : St → Prop, K' (s.set k (some o)) → dstore ti s a v K' := by
  unfold dstore at h
  split at h
  case h_2 => exact h.elim
  rename_i xs hxs
  split at h
  case h_2 => exact h.elim
  rename_i hlen
  split at h
  · split at h
    case h_2 => exact h.elim
    rename_i cs hr
    split at h
    case h_2 => exact h.elim
    rename_i hoff
    exact ⟨_, _, h, fun K' h' => by simp only [dstore, hxs, hlen, hr, hoff]; exact h'⟩
  · split at h
    case h_2 => exact h.elim
    rename_i l hl
    obtain ⟨z, hz, h⟩ := h
    split at h
    case h_2 => exact h.elim
    rename_i hj
    split at h
    case h_2 => exact h.elim
    rename_i u hu
    exact ⟨_, _, h, fun K' h' => by simp only [dstore, hxs, hlen, hl]; exact ⟨z, hz, by simp only [hj, hu]; exact h'⟩⟩
  · exact h.elim
theorem det_clear {te : TI} {s : St} {x : T} {K : St → Prop} (h : dclear te s x K) : ∃ s', K s' ∧ (∀ K' : St → Prop, K' s' → dclear te s x K') ∧ s'.length = s.length := by
  unfold dclear at h
  split at h
  case h_2 => exact h.elim
  rename_i e z he hz
  split at h
  case h_2 => exact h.elim
  rename_i y hy
  split at h
  · exact ⟨s, h, fun K' h' => by simp only [dclear, he, hz, hy]; exact h', rfl⟩
  · split at h
    case isFalse => exact h.elim
    rename_i hk
    split at h
    case h_2 => exact h.elim
    rename_i l hl
    exact ⟨_, h, fun K' h' => by simp only [dclear, he, hz, hy, hk, if_true, hl]; exact h', by simp⟩
  · split at h
    case isFalse => exact h.elim
    rename_i hk
    split at h
    case h_2 => exact h.elim
    rename_i l hl
    exact ⟨_, h, fun K' h' => by simp only [dclear, he, hz, hy, hk, if_true, hl]; exact h', by simp⟩
  · exact h.elim
theorem det_builtin {b : Builtin} {ts : List TypeId} {vs : List T} {s : St} {K : Kn} (h : dbuiltin D b ts vs s K) : Det (isApp b) s (dbuiltin D b ts vs s) K := by
  unfold dbuiltin at h
  split at h
  · split at h
    case h_2 => exact h.elim
    rename_i ti hti
    split at h
    · rename_i hs
      split at h
      case h_2 => exact h.elim
      exact .same h fun K' h' => by simp only [dbuiltin, hti, hs]; exact h'
    · rename_i e hs
      obtain ⟨n, h, k⟩ := det_lenT h
      exact .same h fun K' h' => by simp only [dbuiltin, hti, hs]; exact k _ h'
    · exact h.elim
  · split at h
    case h_2 => exact h.elim
    rename_i hd
    split at h
    case h_2 => exact h.elim
    rename_i te hte
    split at h
    case h_2 => exact h.elim
    rename_i z hz
    obtain ⟨v, s', h1, h2, h3⟩ := det_append h
    exact ⟨v, s', h1, fun K' h' => by simp only [dbuiltin, hd, hte, hz]; exact h2 K' h', h3⟩
  · split at h
    case h_2 => exact h.elim
    rename_i te hte
    obtain ⟨s', h1, h2, h3⟩ := det_clear h
    exact ⟨.undef, s', h1, fun K' h' => by simp only [dbuiltin, hte]; exact h2 _ h', .inr (.inr ⟨rfl, h3⟩)⟩
  · exact .same h fun K' h' => h'
  · exact .same h fun K' h' => h'
  · exact h.elim
theorem det_conv {a b : TypeId} {s : St} {x : T} {K : Kn} {w : Bool} (h : dconv D a b s x K) : Det w s (dconv D a b s x) K := by
  unfold dconv at h
  split at h
  case h_2 => exact h.elim
  rename_i ta tb ha hb
  split at h
  · rename_i hs; exact .same h fun K' h' => by simp only [dconv, ha, hb, hs]; exact h'
  · rename_i hs1 hs2; exact .same h fun K' h' => by simp only [dconv, ha, hb, hs1, hs2]; exact h'
  · exact h.elim
theorem det_pick {x : Bool} {p q : T} (h : dpick x p q K) : Det1 (dpick x p q) K := by
  unfold dpick at h
  split at h
  · exact .mk h fun K' h' => h'
  · rename_i hn
    have key : ∀ K' : T → Prop, (bif x then K' p else K' q) → dpick x p q K' := fun K' h' => by
      unfold dpick
      split
      · exact (hn _ _ rfl rfl).elim
      · exact h'
    cases x
    · exact .mk h (key · )
    · exact .mk h (key · )
theorem det_op {Γ : Gam} {mu : FuncId → Bool} (hΓ : GamDet mu Γ) {op : Op} {ρ : Operand → T} {s : St} {K : Kn} (h : dop D Γ op ρ s K fun _ _ => False) : Det (wrOp mu op ρ) s (fun K => dop D Γ op ρ s K fun _ _ => False) K := by
  unfold dop at h
  split at h
  · exact .same h fun K' h' => h'
  · exact .same h fun K' h' => h'
  · split at h
    case h_2 => exact h.elim
    rename_i b hb
    obtain ⟨v, h1, h2⟩ := det_pick h
    exact .same h1 fun K' h' => by simp only [dop, hb]; exact h2 _ h'
  · split at h
    case h_2 => exact h.elim
    rename_i ti hti
    split at h
    case h_2 => exact h.elim
    rename_i z hz
    exact .new h fun K' h' => by simp only [dop, hti, hz]; exact h'
  · split at h
    case h_2 => exact h.elim
    rename_i z hz
    exact .new h fun K' h' => by simp only [dop, hz]; exact h'
  · exact Det1.lift (det_build h)
  · exact Det1.lift (det_buildSlice h)
  · split at h
    case h_2 => exact h.elim
    rename_i ti hti
    obtain ⟨v, h1, h2⟩ := det_load h
    exact .same h1 fun K' h' => by simp only [dop, hti]; exact h2 _ h'
  · split at h
    case h_2 => exact h.elim
    rename_i ti hti
    obtain ⟨k, o, h1, h2⟩ := det_store h
    exact .upd h1 fun K' h' => by simp only [dop, hti]; exact h2 (fun s => K' .undef s) h'
  · split at h
    case h_5 => exact h.elim
    all_goals
      rename_i hv
      exact .same h fun K' h' => by simp only [dop, hv]; exact h'
  · split at h
    case h_2 => exact h.elim
    rename_i ti hti
    split at h
    · obtain ⟨v, h1, h2⟩ := det_binNil h
      exact .same h1 fun K' h' => by simp only [dop, hti]; exact h2 _ h'
    · rename_i hn
      obtain ⟨v, h1, h2⟩ := det_bin h
      exact .same h1 fun K' h' => by
        simp only [dop, hti]
        exact h2 (fun v => K' v s) h'
  · exact Det1.lift (det_un h)
  · exact det_conv h
  · exact .same h fun K' h' => h'
  · split at h
    case h_2 => exact h.elim
    rename_i ti hti
    obtain ⟨v, h1, h2⟩ := det_dsl h
    exact .same h1 fun K' h' => by simp only [dop, hti]; exact h2 _ h'
  · exact Det1.lift (det_fieldAddr h)
  · exact Det1.lift (det_field h)
  · exact Det1.lift (det_indexAddr h)
  · exact Det1.lift (det_index h)
  · split at h
    case h_2 => exact h.elim
    rename_i vs hvs
    split at h
    case h_2 => exact h.elim
    rename_i v hv
    exact .same h fun K' h' => by simp only [dop, hvs, hv]; exact h'
  · exact det_builtin h
  · split at h
    case h_2 => exact h.elim
    rename_i g vs hg
    obtain ⟨v, s', h1, h2, h3⟩ := hΓ _ _ _ _ h
    exact ⟨v, s', h1, fun K' h' => by simp only [dop, hg]; exact h2 _ h', by simp only [wrOp, hg]; exact h3⟩
  · exact h.elim
end
end Go.Proofs.Ythjikjhddddplaa
