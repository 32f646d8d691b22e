/-
  Arq: what its functions yield, in plain terms.
-/
import Derived.Test.YtofjpelbjehddaaFA
namespace Go.Proofs.Ytofjpelbjehddaa
set_option linter.unusedVariables false
set_option linter.unusedSimpArgs false
set_option linter.unusedSectionVars false
open Go.RowKit

theorem wrap64 {n : Int} (h1 : -9223372036854775808 ≤ n) (h2 : n < 9223372036854775808) : IntKind.i64.wrap n = n := by
  simp [IntKind.wrap, IntKind.bits, IntKind.signed]; omega
/-! ### Loops that count -/
theorem LoopW.count {γ : Type} {body : (γ → Prop) → γ → Prop} (N : Nat) (S : Nat → γ) (P : Nat → Prop) (h : ∀ n, n ≤ N → P n → ∀ W : γ → Prop, (n < N → P (n + 1) → W (S (n + 1))) → body W (S n)) (h0 : P 0) : LoopW body (S 0) := by
  have key : ∀ k n, n + k = N → P n → loopN body (k + 1) (S n) := by
    intro k
    induction k with
    | zero => intro n hn hp; exact h n (by omega) hp _ fun hlt => by omega
    | succ k ih => intro n hn hp; exact h n (by omega) hp _ fun hlt hp' => ih (n + 1) (by omega) hp'
  exact ⟨N + 1, key N 0 (by omega) h0⟩
theorem LoopW.countTo {γ : Type} {body : (γ → Prop) → γ → Prop} {g : γ} (N : Nat) (S : Nat → γ) (P : Nat → Prop) (hg : g = S 0) (h : ∀ n, n ≤ N → P n → ∀ W : γ → Prop, (n < N → P (n + 1) → W (S (n + 1))) → body W (S n)) (h0 : P 0) : LoopW body g := by
  rw [hg]; exact LoopW.count N S P h h0
theorem At_of {α : Type} {l : List α} {n : Nat} {K : α → Prop} (h : n < l.length) (hK : K l[n]) : At l (n : Int) K :=
  ⟨by omega, l[n], by simp [h], hK⟩
theorem take_snoc {α : Type} {l : List α} {n : Nat} (h : n < l.length) : l.take (n + 1) = l.take n ++ [l[n]] := by
  simp
theorem wrapS {n N : Nat} (h : n < N) (hN : N ≤ 4294967296) : IntKind.i64.wrap ((n : Int) + 1) = ((n + 1 : Nat) : Int) := by
  rw [wrap64 (by omega) (by omega)]; rfl

def fitsB (s : ByteArray) : Bool := decide ((s.size : Int) ≤ 65472)
def okN (n : Int) : Bool := decide (0 ≤ n ∧ n ≤ 1099511627776)
def sp31 : Sp := ⟨S31, L31, fun _ => True, fun g => .bool (fitsB g.1), fun _ => none⟩
theorem sp31_ok : sp31.Ok Try.prog 31 true :=
  ⟨fun _ _ X _ h => F31_ok _ _ X h, fun _ _ _ => rfl, fun _ => rfl, fun _ _ => ⟨rfl, rfl⟩⟩
theorem F32_is {n : Int} {K : Kn} (h : K (.bool (okN n)) []) : F32 (n, ()) K := by
  unfold F32
  unfold okN at h
  dsimp only [Lf.ty, prodL] at h ⊢
  by_cases h1 : 0 ≤ n
  · simp only [h1, true_and, decide_true, cond_true] at h ⊢; exact h
  · simp only [h1, false_and, decide_false, cond_false] at h ⊢; exact h
def sp32 : Sp := ⟨S32, L32, fun _ => True, fun g => .bool (okN g.1), fun _ => none⟩
theorem sp32_ok : sp32.Ok Try.prog 32 true :=
  ⟨fun _ _ X _ h => F32_ok _ _ X (F32_is h), fun _ _ _ => rfl, fun _ => rfl, fun _ _ => ⟨rfl, rfl⟩⟩
def sp34 : Sp := ⟨S34, L34, fun _ => True, fun g => .bool (okN g.1), fun _ => none⟩
theorem sp34_ok : sp34.Ok Try.prog 34 true :=
  ⟨fun _ _ X _ h => F34_ok _ _ X (F32_is h), fun _ _ _ => rfl, fun _ => rfl, fun _ _ => ⟨rfl, rfl⟩⟩

theorem eqL_is {α : Type} [DecidableEq α] {a b : List α} {K : Kn} {body : (List α × List α × Int × Int × Unit → Prop) → List α × List α × Int × Int × Unit → Prop} (hb : ∀ W a b N i, body W (a, b, N, i, ()) = bif decide (i < N) then At a i fun u => At b i fun v => bif !decide (u = v) then K (.bool false) [] else W (a, b, N, IntKind.i64.wrap (i + 1), ()) else K (.bool true) [])
    (hr : a.length ≤ 4294967296) (h : K (.bool (decide (a = b))) []) : bif !decide ((a.length : Int) = (b.length : Int)) then K (.bool false) [] else LoopW body (a, b, (a.length : Int), 0, ()) := by
  by_cases hl : a.length = b.length
  case neg =>
    rw [show (!decide ((a.length : Int) = (b.length : Int))) = true by simp; omega, cond_true]
    rwa [show decide (a = b) = false by simp; rintro rfl; exact hl rfl] at h
  rw [show (!decide ((a.length : Int) = (b.length : Int))) = false by simp; omega, cond_false]
  refine LoopW.countTo a.length (fun n => (a, b, (a.length : Int), (n : Int), ())) (fun n => a.take n = b.take n) rfl (fun n hn hp W hW => ?_) (by simp)
  rw [hb]
  by_cases hlt : n < a.length
  · rw [show decide ((n : Int) < (a.length : Int)) = true by simp; omega, cond_true]
    refine At_of hlt (At_of (by omega) ?_)
    by_cases he : a[n] = b[n]'(by omega)
    · rw [show (!decide (a[n] = b[n]'(by omega))) = false by simp [he], cond_false, wrapS hlt hr]
      exact hW hlt (by rw [take_snoc hlt, take_snoc (by omega), hp, he])
    · rw [show (!decide (a[n] = b[n]'(by omega))) = true by simp [he], cond_true]
      rwa [show decide (a = b) = false by simp; rintro rfl; exact he rfl] at h
  · rw [show decide ((n : Int) < (a.length : Int)) = false by simp; omega, cond_false]
    have : a = b := by
      rw [List.take_of_length_le (by omega), List.take_of_length_le (by omega)] at hp
      exact hp
    rwa [show decide (a = b) = true by simp [this]] at h
theorem F27_is {a b : List ByteArray} {K : Kn} (hr : a.length ≤ 4294967296) (h : K (.bool (decide (a = b))) []) : F27 (a, b, ()) K :=
  eqL_is (body := fun V y => F27_B2 K V y.1 y.2.1 y.2.2.1 y.2.2.2.1) (fun _ _ _ _ _ => rfl) hr h
def sp27 : Sp := ⟨S27, L27, fun g => g.1.length ≤ 4294967296, fun g => .bool (decide (g.1 = g.2.1)), fun _ => none⟩
theorem sp27_ok : sp27.Ok Try.prog 27 true :=
  ⟨fun _ _ X hp h => F27_ok _ _ X (F27_is hp h), fun _ _ _ => rfl, fun _ => rfl, fun _ _ => ⟨rfl, rfl⟩⟩
theorem F28_is {a b : List Int} {K : Kn} (hr : a.length ≤ 4294967296) (h : K (.bool (decide (a = b))) []) : F28 (a, b, ()) K :=
  eqL_is (body := fun V y => F28_B2 K V y.1 y.2.1 y.2.2.1 y.2.2.2.1) (fun _ _ _ _ _ => rfl) hr h
def sp28 : Sp := ⟨S28, L28, fun g => g.1.length ≤ 4294967296, fun g => .bool (decide (g.1 = g.2.1)), fun _ => none⟩
theorem sp28_ok : sp28.Ok Try.prog 28 true :=
  ⟨fun _ _ X hp h => F28_ok _ _ X (F28_is hp h), fun _ _ _ => rfl, fun _ => rfl, fun _ _ => ⟨rfl, rfl⟩⟩
/-- The first place of an element, or -1. -/
def ixOf {α : Type} [DecidableEq α] (l : List α) (v : α) : Int := if v ∈ l then (l.idxOf v : Int) else -1
theorem ixL_is {α : Type} [DecidableEq α] {l : List α} {v : α} {K : Kn} {body : (List α × α × Int × Int × Unit → Prop) → List α × α × Int × Int × Unit → Prop} (hb : ∀ W l v N i, body W (l, v, N, i, ()) = bif decide (i < N) then At l i fun u => bif decide (v = u) then K (.int .i64 i) [] else W (l, v, N, IntKind.i64.wrap (i + 1), ()) else K (.int .i64 (-1)) [])
    (hr : l.length ≤ 4294967296) (h : K (.int .i64 (ixOf l v)) []) : LoopW body (l, v, (l.length : Int), 0, ()) := by
  refine LoopW.countTo l.length (fun n => (l, v, (l.length : Int), (n : Int), ())) (fun n => v ∉ l.take n) rfl (fun n hn hp W hW => ?_) (by simp)
  rw [hb]
  by_cases hlt : n < l.length
  · rw [show decide ((n : Int) < (l.length : Int)) = true by simp; omega, cond_true]
    refine At_of hlt ?_
    by_cases he : v = l[n]
    · rw [decide_eq_true he, cond_true]
      have hm : v ∈ l := by rw [he]; exact List.getElem_mem hlt
      have : l.idxOf v = n := by
        have e : l = l.take n ++ l.drop n := (List.take_append_drop n l).symm
        rw [e, List.idxOf_append, if_neg hp, List.drop_eq_getElem_cons hlt, ← he]
        simp; omega
      unfold ixOf at h
      rwa [if_pos hm, this] at h
    · rw [decide_eq_false he, cond_false, wrapS hlt hr]
      exact hW hlt (by rw [take_snoc hlt]; intro hm; rcases List.mem_append.1 hm with hm | hm
                       · exact hp hm
                       · exact he (by simpa using hm))
  · rw [show decide ((n : Int) < (l.length : Int)) = false by simp; omega, cond_false]
    rw [List.take_of_length_le (by omega)] at hp
    unfold ixOf at h
    rwa [if_neg hp] at h
theorem F45_is {l : List Int} {v : Int} {K : Kn} (hr : l.length ≤ 4294967296) (h : K (.int .i64 (ixOf l v)) []) : F45 (l, v, ()) K :=
  ixL_is (body := fun V y => F45_B2 K V y.1 y.2.1 y.2.2.1 y.2.2.2.1) (fun _ _ _ _ _ => rfl) hr h
def sp45 : Sp := ⟨S45, L45, fun g => g.1.length ≤ 4294967296, fun g => .int .i64 (ixOf g.1 g.2.1), fun _ => none⟩
theorem sp45_ok : sp45.Ok Try.prog 45 true :=
  ⟨fun _ _ X hp h => F45_ok _ _ X (F45_is hp h), fun _ _ _ => rfl, fun _ => rfl, fun _ _ => ⟨rfl, rfl⟩⟩
theorem F41_is {l : List Bool} {v : Bool} {K : Kn} (hr : l.length ≤ 4294967296) (h : K (.int .i64 (ixOf l v)) []) : F41 (l, v, ()) K :=
  ixL_is (body := fun V y => F41_B2 K V y.1 y.2.1 y.2.2.1 y.2.2.2.1) (fun _ _ _ _ _ => rfl) hr h
def sp41 : Sp := ⟨S41, L41, fun g => g.1.length ≤ 4294967296, fun g => .int .i64 (ixOf g.1 g.2.1), fun _ => none⟩
theorem sp41_ok : sp41.Ok Try.prog 41 true :=
  ⟨fun _ _ X hp h => F41_ok _ _ X (F41_is hp h), fun _ _ _ => rfl, fun _ => rfl, fun _ _ => ⟨rfl, rfl⟩⟩
end Go.Proofs.Ytofjpelbjehddaa
