import Derived.Test.YtofjpelbjehddaaDoorTD
import Derived.Test.YtofjpelbjehddaaDoorA6
/- What functions come to: printed by exf.py. -/
namespace Go.Proofs.YtofjpelbjehddaaDoor
set_option linter.unusedVariables false
set_option linter.unusedSimpArgs false
set_option linter.unusedSectionVars false
open Go.RowKit
attribute [local irreducible] dfun dround
/-- quilt/quiltref49.fits -/
def H42 : List (Nat × Hint) := []
def J42 : List (Nat × Hint) := []
abbrev S42 : List Sh := [.leaf]
abbrev L42 : List Lf := [.str]
def F42 (g : prodL L42) (K : Kn) : Prop :=
  K (.bool (decide ((g.1.size : Int) ≤ 65472))) []
theorem F42_eq (g : prodL L42) (K X : Kn) : F42 g K = dfun D (gamX [] []) (isRaw []) H42 J42 6 [.tmp 2] (codeOf Tryd.f42) (argsT S42 L42 g) [] (settle0 K) X := by kernel_rfl
theorem F42_ok (g : prodL L42) (K X : Kn) (h : F42 g K) : FCalls Tryd.prog 42 (argsT S42 L42 g) [] K X :=
  FCalls.settle0 (dfun_sound (Γ := gamX [] []) (mu := isRaw []) (H := H42) (J := J42) D_ok (gamX_ok (rs := []) (l := []) (fun p hp => by cases hp) (fun p hp => by cases hp)) gamX_det rfl Tryd.func42 (c := codeOf Tryd.f42) rfl Tryd.ntmps42 (rs := [.tmp 2]) Tryd.results42 (by unfold enters; rw [Tryd.func42]; kernel_rfl) (Nat.le_of_ble_eq_true (by kernel_rfl)) (X := X) (c0 := 0) (Eq.mp (F42_eq g K X) h))
/-- quilt/arq.within -/
def H30 : List (Nat × Hint) := []
def J30 : List (Nat × Hint) := []
abbrev S30 : List Sh := [.leaf]
abbrev L30 : List Lf := [.int .i64]
def F30 (g : prodL L30) (K : Kn) : Prop :=
  bif decide (0 ≤ g.1) then (
    K (.bool (decide (g.1 ≤ 1099511627776))) [])
  else (
    K (.bool false) [])
theorem F30_eq (g : prodL L30) (K X : Kn) : F30 g K = dfun D (gamX [] []) (isRaw []) H30 J30 9 [.tmp 2] (codeOf Tryd.f30) (argsT S30 L30 g) [] (settle0 K) X := by kernel_rfl
theorem F30_ok (g : prodL L30) (K X : Kn) (h : F30 g K) : FCalls Tryd.prog 30 (argsT S30 L30 g) [] K X :=
  FCalls.settle0 (dfun_sound (Γ := gamX [] []) (mu := isRaw []) (H := H30) (J := J30) D_ok (gamX_ok (rs := []) (l := []) (fun p hp => by cases hp) (fun p hp => by cases hp)) gamX_det rfl Tryd.func30 (c := codeOf Tryd.f30) rfl Tryd.ntmps30 (rs := [.tmp 2]) Tryd.results30 (by unfold enters; rw [Tryd.func30]; kernel_rfl) (Nat.le_of_ble_eq_true (by kernel_rfl)) (X := X) (c0 := 0) (Eq.mp (F30_eq g K X) h))
/-- quilt/quiltref49.number -/
def H41 : List (Nat × Hint) := []
def J41 : List (Nat × Hint) := []
abbrev S41 : List Sh := [.leaf]
abbrev L41 : List Lf := [.int .i64]
def F41 (g : prodL L41) (K : Kn) : Prop :=
  bif decide (0 ≤ g.1) then (
    K (.bool (decide (g.1 ≤ 1099511627776))) [])
  else (
    K (.bool false) [])
theorem F41_eq (g : prodL L41) (K X : Kn) : F41 g K = dfun D (gamX [] []) (isRaw []) H41 J41 9 [.tmp 2] (codeOf Tryd.f41) (argsT S41 L41 g) [] (settle0 K) X := by kernel_rfl
theorem F41_ok (g : prodL L41) (K X : Kn) (h : F41 g K) : FCalls Tryd.prog 41 (argsT S41 L41 g) [] K X :=
  FCalls.settle0 (dfun_sound (Γ := gamX [] []) (mu := isRaw []) (H := H41) (J := J41) D_ok (gamX_ok (rs := []) (l := []) (fun p hp => by cases hp) (fun p hp => by cases hp)) gamX_det rfl Tryd.func41 (c := codeOf Tryd.f41) rfl Tryd.ntmps41 (rs := [.tmp 2]) Tryd.results41 (by unfold enters; rw [Tryd.func41]; kernel_rfl) (Nat.le_of_ble_eq_true (by kernel_rfl)) (X := X) (c0 := 0) (Eq.mp (F41_eq g K X) h))
/-- slices.Equal[[]string,string] -/
def H15 : List (Nat × Hint) := [(4, ⟨[], [(0, .leaf), (1, .leaf), (12, .leaf), (13, .leaf)], [], [.sl .str, .sl .str, .int .i64, .int .i64]⟩)]
def J15 : List (Nat × Hint) := []
abbrev S15 : List Sh := [.leaf, .leaf]
abbrev L15 : List Lf := [.sl .str, .sl .str]
def F15_B2 (K : Kn) (W2 : prodL [.sl .str, .sl .str, .int .i64, .int .i64] → Prop) (s1_1 : List ByteArray) (s2_1 : List ByteArray) (t_1 : Int) (t2_1 : Int) : Prop :=
  bif decide (t2_1 < t_1) then (
    At s1_1 t2_1 fun u3 =>
  At s2_1 t2_1 fun u4 =>
  bif !decide (u3 = u4) then (
    K (.bool false) [])
  else (
    W2 (s1_1, s2_1, t_1, IntKind.i64.wrap (t2_1 + 1), ())))
  else (
    K (.bool true) [])
def F15_L2 (K : Kn) (g : prodL [.sl .str, .sl .str, .int .i64, .int .i64]) : Prop :=
  LoopW (γ := prodL [.sl .str, .sl .str, .int .i64, .int .i64]) (fun V y => F15_B2 K V y.1 y.2.1 y.2.2.1 y.2.2.2.1) g
def F15 (g : prodL L15) (K : Kn) : Prop :=
  bif !decide ((g.1.length : Int) = (g.2.1.length : Int)) then (
    K (.bool false) [])
  else (
    F15_L2 K (g.1, g.2.1, (g.1.length : Int), 0, ()))
theorem F15_eq (g : prodL L15) (K X : Kn) : F15 g K = dfun D (gamX [] []) (isRaw []) H15 J15 26 [.tmp 4] (codeOf Tryd.f15) (argsT S15 L15 g) [] (settle0 K) X := by kernel_rfl
theorem F15_ok (g : prodL L15) (K X : Kn) (h : F15 g K) : FCalls Tryd.prog 15 (argsT S15 L15 g) [] K X :=
  FCalls.settle0 (dfun_sound (Γ := gamX [] []) (mu := isRaw []) (H := H15) (J := J15) D_ok (gamX_ok (rs := []) (l := []) (fun p hp => by cases hp) (fun p hp => by cases hp)) gamX_det rfl Tryd.func15 (c := codeOf Tryd.f15) rfl Tryd.ntmps15 (rs := [.tmp 4]) Tryd.results15 (by unfold enters; rw [Tryd.func15]; kernel_rfl) (Nat.le_of_ble_eq_true (by kernel_rfl)) (X := X) (c0 := 0) (Eq.mp (F15_eq g K X) h))
/-- slices.Index[[]int,int] -/
def H53 : List (Nat × Hint) := [(2, ⟨[], [(0, .leaf), (1, .leaf), (7, .leaf), (8, .leaf)], [], [.sl .i64, .int .i64, .int .i64, .int .i64]⟩)]
def J53 : List (Nat × Hint) := []
abbrev S53 : List Sh := [.leaf, .leaf]
abbrev L53 : List Lf := [.sl .i64, .int .i64]
def F53_B2 (K : Kn) (W2 : prodL [.sl .i64, .int .i64, .int .i64, .int .i64] → Prop) (s_1 : List Int) (v_1 : Int) (t_1 : Int) (t2_1 : Int) : Prop :=
  bif decide (t2_1 < t_1) then (
    At s_1 t2_1 fun u3 =>
  bif decide (v_1 = u3) then (
    K (.int .i64 t2_1) [])
  else (
    W2 (s_1, v_1, t_1, IntKind.i64.wrap (t2_1 + 1), ())))
  else (
    K (.int .i64 (-1)) [])
def F53_L2 (K : Kn) (g : prodL [.sl .i64, .int .i64, .int .i64, .int .i64]) : Prop :=
  LoopW (γ := prodL [.sl .i64, .int .i64, .int .i64, .int .i64]) (fun V y => F53_B2 K V y.1 y.2.1 y.2.2.1 y.2.2.2.1) g
def F53 (g : prodL L53) (K : Kn) : Prop :=
  F53_L2 K (g.1, g.2.1, (g.1.length : Int), 0, ())
theorem F53_eq (g : prodL L53) (K X : Kn) : F53 g K = dfun D (gamX [] []) (isRaw []) H53 J53 19 [.tmp 4] (codeOf Tryd.f53) (argsT S53 L53 g) [] (settle0 K) X := by kernel_rfl
theorem F53_ok (g : prodL L53) (K X : Kn) (h : F53 g K) : FCalls Tryd.prog 53 (argsT S53 L53 g) [] K X :=
  FCalls.settle0 (dfun_sound (Γ := gamX [] []) (mu := isRaw []) (H := H53) (J := J53) D_ok (gamX_ok (rs := []) (l := []) (fun p hp => by cases hp) (fun p hp => by cases hp)) gamX_det rfl Tryd.func53 (c := codeOf Tryd.f53) rfl Tryd.ntmps53 (rs := [.tmp 4]) Tryd.results53 (by unfold enters; rw [Tryd.func53]; kernel_rfl) (Nat.le_of_ble_eq_true (by kernel_rfl)) (X := X) (c0 := 0) (Eq.mp (F53_eq g K X) h))
/-- slices.Index[[]bool,bool] -/
def H35 : List (Nat × Hint) := [(2, ⟨[], [(0, .leaf), (1, .leaf), (7, .leaf), (8, .leaf)], [], [.sl .boo, .bool, .int .i64, .int .i64]⟩)]
def J35 : List (Nat × Hint) := []
abbrev S35 : List Sh := [.leaf, .leaf]
abbrev L35 : List Lf := [.sl .boo, .bool]
def F35_B2 (K : Kn) (W2 : prodL [.sl .boo, .bool, .int .i64, .int .i64] → Prop) (s_1 : List Bool) (v_1 : Bool) (t_1 : Int) (t2_1 : Int) : Prop :=
  bif decide (t2_1 < t_1) then (
    At s_1 t2_1 fun u3 =>
  bif decide (v_1 = u3) then (
    K (.int .i64 t2_1) [])
  else (
    W2 (s_1, v_1, t_1, IntKind.i64.wrap (t2_1 + 1), ())))
  else (
    K (.int .i64 (-1)) [])
def F35_L2 (K : Kn) (g : prodL [.sl .boo, .bool, .int .i64, .int .i64]) : Prop :=
  LoopW (γ := prodL [.sl .boo, .bool, .int .i64, .int .i64]) (fun V y => F35_B2 K V y.1 y.2.1 y.2.2.1 y.2.2.2.1) g
def F35 (g : prodL L35) (K : Kn) : Prop :=
  F35_L2 K (g.1, g.2.1, (g.1.length : Int), 0, ())
theorem F35_eq (g : prodL L35) (K X : Kn) : F35 g K = dfun D (gamX [] []) (isRaw []) H35 J35 19 [.tmp 4] (codeOf Tryd.f35) (argsT S35 L35 g) [] (settle0 K) X := by kernel_rfl
theorem F35_ok (g : prodL L35) (K X : Kn) (h : F35 g K) : FCalls Tryd.prog 35 (argsT S35 L35 g) [] K X :=
  FCalls.settle0 (dfun_sound (Γ := gamX [] []) (mu := isRaw []) (H := H35) (J := J35) D_ok (gamX_ok (rs := []) (l := []) (fun p hp => by cases hp) (fun p hp => by cases hp)) gamX_det rfl Tryd.func35 (c := codeOf Tryd.f35) rfl Tryd.ntmps35 (rs := [.tmp 4]) Tryd.results35 (by unfold enters; rw [Tryd.func35]; kernel_rfl) (Nat.le_of_ble_eq_true (by kernel_rfl)) (X := X) (c0 := 0) (Eq.mp (F35_eq g K X) h))
end Go.Proofs.YtofjpelbjehddaaDoor

/-
  Arq: what its functions yield, in plain terms.
-/
namespace Go.Proofs.YtofjpelbjehddaaDoor
set_option linter.unusedVariables false
set_option linter.unusedSimpArgs false
set_option linter.unusedSectionVars false
open Go.RowKit

theorem wrap64Q {n : Int} (h1 : -9223372036854775808 ≤ n) (h2 : n < 9223372036854775808) : IntKind.i64.wrap n = n := by
  simp [IntKind.wrap, IntKind.bits, IntKind.signed]; omega
/-! ### Loops that count -/
theorem LoopW.count {γ : Type} {body : (γ → Prop) → γ → Prop} (N : Nat) (S : Nat → γ) (P : Nat → Prop) (h : ∀ n, n ≤ N → P n → ∀ W : γ → Prop, (n < N → P (n + 1) → W (S (n + 1))) → body W (S n)) (h0 : P 0) : LoopW body (S 0) := by
  have key : ∀ k n, n + k = N → P n → loopN body (k + 1) (S n) := by
    intro k
    induction k with
    | zero => intro n hn hp; exact h n (by omega) hp _ fun hlt => by omega
    | succ k ih => intro n hn hp; exact h n (by omega) hp _ fun hlt hp' => ih (n + 1) (by omega) hp'
  exact ⟨N + 1, key N 0 (by omega) h0⟩
theorem LoopW.countTo {γ : Type} {body : (γ → Prop) → γ → Prop} {g : γ} (N : Nat) (S : Nat → γ) (P : Nat → Prop) (hg : g = S 0) (h : ∀ n, n ≤ N → P n → ∀ W : γ → Prop, (n < N → P (n + 1) → W (S (n + 1))) → body W (S n)) (h0 : P 0) : LoopW body g := by
  rw [hg]; exact LoopW.count N S P h h0
theorem At_ofQ {α : Type} {l : List α} {n : Nat} {K : α → Prop} (h : n < l.length) (hK : K l[n]) : At l (n : Int) K :=
  ⟨by omega, l[n], by simp [h], hK⟩
theorem take_snoc {α : Type} {l : List α} {n : Nat} (h : n < l.length) : l.take (n + 1) = l.take n ++ [l[n]] := by
  simp
theorem wrapSQ {n N : Nat} (h : n < N) (hN : N ≤ 4294967296) : IntKind.i64.wrap ((n : Int) + 1) = ((n + 1 : Nat) : Int) := by
  rw [wrap64Q (by omega) (by omega)]; rfl

def fitsB (s : ByteArray) : Bool := decide ((s.size : Int) ≤ 65472)
def okN (n : Int) : Bool := decide (0 ≤ n ∧ n ≤ 1099511627776)
def sp42 : Sp := ⟨S42, L42, fun _ => True, fun g => .bool (fitsB g.1), fun _ => none⟩
theorem sp42_ok : sp42.Ok Tryd.prog 42 true :=
  ⟨fun _ _ X _ h => F42_ok _ _ X h, fun _ _ _ => rfl, fun _ => rfl, fun _ _ => ⟨rfl, rfl⟩⟩
theorem F30_is {n : Int} {K : Kn} (h : K (.bool (okN n)) []) : F30 (n, ()) K := by
  unfold F30
  unfold okN at h
  dsimp only [Lf.ty, prodL] at h ⊢
  by_cases h1 : 0 ≤ n
  · simp only [h1, true_and, decide_true, cond_true] at h ⊢; exact h
  · simp only [h1, false_and, decide_false, cond_false] at h ⊢; exact h
def sp30 : Sp := ⟨S30, L30, fun _ => True, fun g => .bool (okN g.1), fun _ => none⟩
theorem sp30_ok : sp30.Ok Tryd.prog 30 true :=
  ⟨fun _ _ X _ h => F30_ok _ _ X (F30_is h), fun _ _ _ => rfl, fun _ => rfl, fun _ _ => ⟨rfl, rfl⟩⟩
def sp41 : Sp := ⟨S41, L41, fun _ => True, fun g => .bool (okN g.1), fun _ => none⟩
theorem sp41_ok : sp41.Ok Tryd.prog 41 true :=
  ⟨fun _ _ X _ h => F41_ok _ _ X (F30_is h), fun _ _ _ => rfl, fun _ => rfl, fun _ _ => ⟨rfl, rfl⟩⟩

theorem eqL_is {α : Type} [DecidableEq α] {a b : List α} {K : Kn} {body : (List α × List α × Int × Int × Unit → Prop) → List α × List α × Int × Int × Unit → Prop} (hb : ∀ W a b N i, body W (a, b, N, i, ()) = bif decide (i < N) then At a i fun u => At b i fun v => bif !decide (u = v) then K (.bool false) [] else W (a, b, N, IntKind.i64.wrap (i + 1), ()) else K (.bool true) [])
    (hr : a.length ≤ 4294967296) (h : K (.bool (decide (a = b))) []) : bif !decide ((a.length : Int) = (b.length : Int)) then K (.bool false) [] else LoopW body (a, b, (a.length : Int), 0, ()) := by
  by_cases hl : a.length = b.length
  case neg =>
    rw [show (!decide ((a.length : Int) = (b.length : Int))) = true by simp; omega, cond_true]
    rwa [show decide (a = b) = false by simp; rintro rfl; exact hl rfl] at h
  rw [show (!decide ((a.length : Int) = (b.length : Int))) = false by simp; omega, cond_false]
  refine LoopW.countTo a.length (fun n => (a, b, (a.length : Int), (n : Int), ())) (fun n => a.take n = b.take n) rfl (fun n hn hp W hW => ?_) (by simp)
  rw [hb]
  by_cases hlt : n < a.length
  · rw [show decide ((n : Int) < (a.length : Int)) = true by simp; omega, cond_true]
    refine At_ofQ hlt (At_ofQ (by omega) ?_)
    by_cases he : a[n] = b[n]'(by omega)
    · rw [show (!decide (a[n] = b[n]'(by omega))) = false by simp [he], cond_false, wrapSQ hlt hr]
      exact hW hlt (by rw [take_snoc hlt, take_snoc (by omega), hp, he])
    · rw [show (!decide (a[n] = b[n]'(by omega))) = true by simp [he], cond_true]
      rwa [show decide (a = b) = false by simp; rintro rfl; exact he rfl] at h
  · rw [show decide ((n : Int) < (a.length : Int)) = false by simp; omega, cond_false]
    have : a = b := by
      rw [List.take_of_length_le (by omega), List.take_of_length_le (by omega)] at hp
      exact hp
    rwa [show decide (a = b) = true by simp [this]] at h
theorem F15_is {a b : List ByteArray} {K : Kn} (hr : a.length ≤ 4294967296) (h : K (.bool (decide (a = b))) []) : F15 (a, b, ()) K :=
  eqL_is (body := fun V y => F15_B2 K V y.1 y.2.1 y.2.2.1 y.2.2.2.1) (fun _ _ _ _ _ => rfl) hr h
def sp15 : Sp := ⟨S15, L15, fun g => g.1.length ≤ 4294967296, fun g => .bool (decide (g.1 = g.2.1)), fun _ => none⟩
theorem sp15_ok : sp15.Ok Tryd.prog 15 true :=
  ⟨fun _ _ X hp h => F15_ok _ _ X (F15_is hp h), fun _ _ _ => rfl, fun _ => rfl, fun _ _ => ⟨rfl, rfl⟩⟩
/-- The first place of an element, or -1. -/
def ixOf {α : Type} [DecidableEq α] (l : List α) (v : α) : Int := if v ∈ l then (l.idxOf v : Int) else -1
theorem ixL_is {α : Type} [DecidableEq α] {l : List α} {v : α} {K : Kn} {body : (List α × α × Int × Int × Unit → Prop) → List α × α × Int × Int × Unit → Prop} (hb : ∀ W l v N i, body W (l, v, N, i, ()) = bif decide (i < N) then At l i fun u => bif decide (v = u) then K (.int .i64 i) [] else W (l, v, N, IntKind.i64.wrap (i + 1), ()) else K (.int .i64 (-1)) [])
    (hr : l.length ≤ 4294967296) (h : K (.int .i64 (ixOf l v)) []) : LoopW body (l, v, (l.length : Int), 0, ()) := by
  refine LoopW.countTo l.length (fun n => (l, v, (l.length : Int), (n : Int), ())) (fun n => v ∉ l.take n) rfl (fun n hn hp W hW => ?_) (by simp)
  rw [hb]
  by_cases hlt : n < l.length
  · rw [show decide ((n : Int) < (l.length : Int)) = true by simp; omega, cond_true]
    refine At_ofQ hlt ?_
    by_cases he : v = l[n]
    · rw [decide_eq_true he, cond_true]
      have hm : v ∈ l := by rw [he]; exact List.getElem_mem hlt
      have : l.idxOf v = n := by
        have e : l = l.take n ++ l.drop n := (List.take_append_drop n l).symm
        rw [e, List.idxOf_append, if_neg hp, List.drop_eq_getElem_cons hlt, ← he]
        simp; omega
      unfold ixOf at h
      rwa [if_pos hm, this] at h
    · rw [decide_eq_false he, cond_false, wrapSQ hlt hr]
      exact hW hlt (by rw [take_snoc hlt]; intro hm; rcases List.mem_append.1 hm with hm | hm
                       · exact hp hm
                       · exact he (by simpa using hm))
  · rw [show decide ((n : Int) < (l.length : Int)) = false by simp; omega, cond_false]
    rw [List.take_of_length_le (by omega)] at hp
    unfold ixOf at h
    rwa [if_neg hp] at h
theorem F53_is {l : List Int} {v : Int} {K : Kn} (hr : l.length ≤ 4294967296) (h : K (.int .i64 (ixOf l v)) []) : F53 (l, v, ()) K :=
  ixL_is (body := fun V y => F53_B2 K V y.1 y.2.1 y.2.2.1 y.2.2.2.1) (fun _ _ _ _ _ => rfl) hr h
def sp53 : Sp := ⟨S53, L53, fun g => g.1.length ≤ 4294967296, fun g => .int .i64 (ixOf g.1 g.2.1), fun _ => none⟩
theorem sp53_ok : sp53.Ok Tryd.prog 53 true :=
  ⟨fun _ _ X hp h => F53_ok _ _ X (F53_is hp h), fun _ _ _ => rfl, fun _ => rfl, fun _ _ => ⟨rfl, rfl⟩⟩
theorem F35_is {l : List Bool} {v : Bool} {K : Kn} (hr : l.length ≤ 4294967296) (h : K (.int .i64 (ixOf l v)) []) : F35 (l, v, ()) K :=
  ixL_is (body := fun V y => F35_B2 K V y.1 y.2.1 y.2.2.1 y.2.2.2.1) (fun _ _ _ _ _ => rfl) hr h
def sp35 : Sp := ⟨S35, L35, fun g => g.1.length ≤ 4294967296, fun g => .int .i64 (ixOf g.1 g.2.1), fun _ => none⟩
theorem sp35_ok : sp35.Ok Tryd.prog 35 true :=
  ⟨fun _ _ X hp h => F35_ok _ _ X (F35_is hp h), fun _ _ _ => rfl, fun _ => rfl, fun _ _ => ⟨rfl, rfl⟩⟩
end Go.Proofs.YtofjpelbjehddaaDoor

/- What functions come to: printed by exf.py. -/
namespace Go.Proofs.YtofjpelbjehddaaDoor
set_option linter.unusedVariables false
set_option linter.unusedSimpArgs false
set_option linter.unusedSectionVars false
open Go.RowKit
attribute [local irreducible] dfun dround
/-- quilt/arq.element -/
def H51 : List (Nat × Hint) := []
def J51 : List (Nat × Hint) := [(4, ⟨[], [(39, .leaf)], [], [.bool]⟩)]
abbrev S51 : List Sh := [.ag [.leaf, .leaf, .leaf, .leaf], .leaf]
abbrev L51 : List Lf := [.int .i64, .int .i64, .sl .str, .sl .i64, .int .i64]
def F51_J6 (K : Kn) (t_5 : Bool) : Prop :=
  bif t_5 then (
    K (.int .i64 2) [])
  else (
    K (.int .i64 0) [])
def F51 (g : prodL L51) (K : Kn) : Prop :=
  At g.2.2.1 g.2.2.2.2.1 fun u1 =>
  bif decide (65472 < (u1.size : Int)) then (
    K (.int .i64 4) [])
  else (
    At g.2.2.2.1 g.2.2.2.2.1 fun u2 =>
  bif decide (u2 < (-1)) then (
    F51_J6 K true)
  else (
    At g.2.2.2.1 g.2.2.2.2.1 fun u3 =>
    bif decide (1099511627776 < u3) then (
      F51_J6 K true)
    else (
      bif decide (g.2.1 ≤ g.2.2.2.2.1) then (
        At g.2.2.2.1 g.2.2.2.2.1 fun u4 =>
        F51_J6 K (!decide (u4 = (-1))))
      else (
        F51_J6 K false))))
theorem F51_eq (g : prodL L51) (K X : Kn) : F51 g K = dfun D (gamX [] []) (isRaw []) H51 J51 40 [.tmp 4] (codeOf Tryd.f51) (argsT S51 L51 g) [] (settle0 K) X := by kernel_rfl
theorem F51_ok (g : prodL L51) (K X : Kn) (h : F51 g K) : FCalls Tryd.prog 51 (argsT S51 L51 g) [] K X :=
  FCalls.settle0 (dfun_sound (Γ := gamX [] []) (mu := isRaw []) (H := H51) (J := J51) D_ok (gamX_ok (rs := []) (l := []) (fun p hp => by cases hp) (fun p hp => by cases hp)) gamX_det rfl Tryd.func51 (c := codeOf Tryd.f51) rfl Tryd.ntmps51 (rs := [.tmp 4]) Tryd.results51 (by unfold enters; rw [Tryd.func51]; kernel_rfl) (Nat.le_of_ble_eq_true (by kernel_rfl)) (X := X) (c0 := 0) (Eq.mp (F51_eq g K X) h))
/-- quilt/arq.checkFrame -/
def H16 : List (Nat × Hint) := []
def J16 : List (Nat × Hint) := [(6, ⟨[], [(13, .leaf)], [], [.bool]⟩)]
abbrev S16 : List Sh := [.ag [.leaf, .leaf, .leaf]]
abbrev L16 : List Lf := [.bool, .int .i64, .str]
def F16_J2 (K : Kn) (t_1 : Bool) : Prop :=
  bif t_1 then (
        K (.int .i64 1) [])
      else (
        K (.int .i64 0) [])
def F16 (g : prodL L16) (K : Kn) : Prop :=
  sp30.pre (g.2.1, ()) ∧
  bif !(okN g.2.1) then (
    K (.int .i64 2) [])
  else (
    bif decide (65472 < (g.2.2.1.size : Int)) then (
      K (.int .i64 4) [])
    else (
      bif g.1 then (
        F16_J2 K (!decide (g.2.2.1 = (⟨#[]⟩ : ByteArray))))
      else (
        F16_J2 K false)))
theorem F16_eq (g : prodL L16) (K X : Kn) : F16 g K = dfun D (gamX [] [(30, true, sp30)]) (isRaw []) H16 J16 21 [.tmp 2] (codeOf Tryd.f16) (argsT S16 L16 g) [] (settle0 K) X := by kernel_rfl
theorem F16_ok (g : prodL L16) (K X : Kn) (h : F16 g K) : FCalls Tryd.prog 16 (argsT S16 L16 g) [] K X :=
  FCalls.settle0 (dfun_sound (Γ := gamX [] [(30, true, sp30)]) (mu := isRaw []) (H := H16) (J := J16) D_ok (gamX_ok (rs := []) (l := [(30, true, sp30)]) (fun p hp => by cases hp) (by intro p hp; simp only [List.mem_cons, List.not_mem_nil, or_false] at hp; subst hp; exact sp30_ok)) gamX_det rfl Tryd.func16 (c := codeOf Tryd.f16) rfl Tryd.ntmps16 (rs := [.tmp 2]) Tryd.results16 (by unfold enters; rw [Tryd.func16]; kernel_rfl) (Nat.le_of_ble_eq_true (by kernel_rfl)) (X := X) (c0 := 0) (Eq.mp (F16_eq g K X) h))
/-- quilt/quiltref49.frame -/
def H20 : List (Nat × Hint) := []
def J20 : List (Nat × Hint) := [(6, ⟨[], [(17, .leaf)], [], [.bool]⟩)]
abbrev S20 : List Sh := [.ag [.leaf, .leaf, .leaf]]
abbrev L20 : List Lf := [.bool, .int .i64, .str]
def F20_J2 (K : Kn) (t_1 : Bool) : Prop :=
  bif t_1 then (
    K (.int .i64 1) [])
  else (
    K (.int .i64 0) [])
def F20 (g : prodL L20) (K : Kn) : Prop :=
  sp41.pre (g.2.1, ()) ∧
  bif !(okN g.2.1) then (
    K (.int .i64 2) [])
  else (
    sp42.pre (g.2.2.1, ()) ∧
  bif !(fitsB g.2.2.1) then (
    K (.int .i64 4) [])
  else (
    bif g.1 then (
    F20_J2 K (!decide (g.2.2.1 = (⟨#[]⟩ : ByteArray))))
  else (
    F20_J2 K false)))
theorem F20_eq (g : prodL L20) (K X : Kn) : F20 g K = dfun D (gamX [] [(42, true, sp42), (41, true, sp41)]) (isRaw []) H20 J20 18 [.tmp 2] (codeOf Tryd.f20) (argsT S20 L20 g) [] (settle0 K) X := by kernel_rfl
theorem F20_ok (g : prodL L20) (K X : Kn) (h : F20 g K) : FCalls Tryd.prog 20 (argsT S20 L20 g) [] K X :=
  FCalls.settle0 (dfun_sound (Γ := gamX [] [(42, true, sp42), (41, true, sp41)]) (mu := isRaw []) (H := H20) (J := J20) D_ok (gamX_ok (rs := []) (l := [(42, true, sp42), (41, true, sp41)]) (fun p hp => by cases hp) (by intro p hp; simp only [List.mem_cons, List.not_mem_nil, or_false] at hp; rcases hp with rfl | rfl <;> first | exact sp42_ok | exact sp41_ok)) gamX_det rfl Tryd.func20 (c := codeOf Tryd.f20) rfl Tryd.ntmps20 (rs := [.tmp 2]) Tryd.results20 (by unfold enters; rw [Tryd.func20]; kernel_rfl) (Nat.le_of_ble_eq_true (by kernel_rfl)) (X := X) (c0 := 0) (Eq.mp (F20_eq g K X) h))
/-- slices.Contains[[]int,int] -/
def H32 : List (Nat × Hint) := []
def J32 : List (Nat × Hint) := []
abbrev S32 : List Sh := [.leaf, .leaf]
abbrev L32 : List Lf := [.sl .i64, .int .i64]
def F32 (g : prodL L32) (K : Kn) : Prop :=
  sp53.pre (g.1, g.2.1, ()) ∧
  K (.bool (decide (0 ≤ ixOf g.1 g.2.1))) []
theorem F32_eq (g : prodL L32) (K X : Kn) : F32 g K = dfun D (gamX [] [(53, true, sp53)]) (isRaw []) H32 J32 9 [.tmp 4] (codeOf Tryd.f32) (argsT S32 L32 g) [] (settle0 K) X := by kernel_rfl
theorem F32_ok (g : prodL L32) (K X : Kn) (h : F32 g K) : FCalls Tryd.prog 32 (argsT S32 L32 g) [] K X :=
  FCalls.settle0 (dfun_sound (Γ := gamX [] [(53, true, sp53)]) (mu := isRaw []) (H := H32) (J := J32) D_ok (gamX_ok (rs := []) (l := [(53, true, sp53)]) (fun p hp => by cases hp) (by intro p hp; simp only [List.mem_cons, List.not_mem_nil, or_false] at hp; subst hp; exact sp53_ok)) gamX_det rfl Tryd.func32 (c := codeOf Tryd.f32) rfl Tryd.ntmps32 (rs := [.tmp 4]) Tryd.results32 (by unfold enters; rw [Tryd.func32]; kernel_rfl) (Nat.le_of_ble_eq_true (by kernel_rfl)) (X := X) (c0 := 0) (Eq.mp (F32_eq g K X) h))
end Go.Proofs.YtofjpelbjehddaaDoor

/-
  Arq: what its functions yield, in plain terms, 2.
-/
namespace Go.Proofs.YtofjpelbjehddaaDoor
set_option linter.unusedVariables false
set_option linter.unusedSimpArgs false
set_option linter.unusedSectionVars false
open Go.RowKit

structure Snd where
  base : Int
  window : Int
  data : List ByteArray
  sent : List Int
  deriving DecidableEq
structure Rcv where
  next : Int
  have_ : List Bool
  data : List ByteArray
  deriving DecidableEq
/-- A loop over two lists of one length that asks whether they are the same. -/
theorem same_loop {α γ : Type} [DecidableEq α] {a b : List α} {S : Int → γ} {body : (γ → Prop) → γ → Prop} {A B : Prop} (hl : a.length = b.length) (hr : a.length ≤ 4294967296)
    (hb : ∀ (W : γ → Prop) (i : Int), body W (S i) = bif decide (i < (a.length : Int)) then At a i fun u => At b i fun v => bif !decide (u = v) then A else W (S (IntKind.i64.wrap (i + 1))) else B) (hA : a ≠ b → A) (hB : a = b → B) : LoopW body (S 0) := by
  refine LoopW.countTo a.length (fun n => S (n : Int)) (fun n => a.take n = b.take n) rfl (fun n hn hp W hW => ?_) (by simp)
  rw [hb]
  by_cases hlt : n < a.length
  · rw [show decide ((n : Int) < (a.length : Int)) = true by simp; omega, cond_true]
    refine At_ofQ hlt (At_ofQ (by omega) ?_)
    by_cases he : a[n] = b[n]'(by omega)
    · rw [show (!decide (a[n] = b[n]'(by omega))) = false by simp [he], cond_false, wrapSQ hlt hr]
      exact hW hlt (by rw [take_snoc hlt, take_snoc (by omega), hp, he])
    · rw [show (!decide (a[n] = b[n]'(by omega))) = true by simp [he], cond_true]
      exact hA (by rintro rfl; exact he rfl)
  · rw [show decide ((n : Int) < (a.length : Int)) = false by simp; omega, cond_false]
    refine hB ?_
    rw [List.take_of_length_le (by omega), List.take_of_length_le (by omega)] at hp
    exact hp
theorem frm_eq {u v : Frm} : (decide (u.ack = v.ack) && (decide (u.number = v.number) && (decide (u.data = v.data) && true))) = decide (u = v) := by
  obtain ⟨a, b, c⟩ := u
  obtain ⟨d, e, f⟩ := v
  simp [Bool.decide_and]
def bytesOf (l : List ByteArray) : Nat := (l.map (·.size)).sum
def greatS (data : List ByteArray) (n : Nat) : Bool := decide (100 < data.length ∨ 100 < n ∨ 1000 < bytesOf data)
theorem bytes_snoc {l : List ByteArray} {n : Nat} (h : n < l.length) : bytesOf (l.take (n + 1)) = bytesOf (l.take n) + l[n].size := by
  unfold bytesOf
  rw [take_snoc h, List.map_append, List.sum_append]
  simp
theorem bytes_take {l : List ByteArray} {n : Nat} : bytesOf (l.take n) ≤ bytesOf l := by
  unfold bytesOf
  have : l = l.take n ++ l.drop n := (List.take_append_drop n l).symm
  conv => rhs; rw [this]
  rw [List.map_append, List.sum_append]
  omega
theorem great_loop {γ : Type} {l : List ByteArray} {S : Int → Int → γ} {body : (γ → Prop) → γ → Prop} {B : Int → Prop} (hr : l.length ≤ 4294967296) (hs : bytesOf l ≤ 4294967296)
    (hb : ∀ (W : γ → Prop) (n i : Int), body W (S n i) = bif decide (i < (l.length : Int)) then At l i fun u => W (S (IntKind.i64.wrap (n + (u.size : Int))) (IntKind.i64.wrap (i + 1))) else B n) (hB : B (bytesOf l : Int)) : LoopW body (S 0 0) := by
  refine LoopW.countTo l.length (fun n => S (bytesOf (l.take n) : Int) (n : Int)) (fun _ => True) (by simp [bytesOf]) (fun n hn _ W hW => ?_) trivial
  rw [hb]
  by_cases hlt : n < l.length
  · rw [show decide ((n : Int) < (l.length : Int)) = true by simp; omega, cond_true]
    refine At_ofQ hlt ?_
    have h1 : bytesOf (l.take (n + 1)) ≤ bytesOf l := bytes_take
    have h2 := bytes_snoc hlt
    rw [wrapSQ hlt hr, wrap64Q (by omega) (by omega)]
    have := hW hlt trivial
    rw [h2] at this
    rwa [← Int.natCast_add]
  · rw [show decide ((n : Int) < (l.length : Int)) = false by simp; omega, cond_false, List.take_of_length_le (by omega)]
    exact hB
theorem great_end {n m k : Nat} {K : Kn} (h : K (.bool (decide (100 < n ∨ 100 < m ∨ 1000 < k))) []) : bif decide (100 < (n : Int)) then K (.bool true) [] else bif decide (100 < (m : Int)) then K (.bool true) [] else K (.bool (decide (1000 < (k : Int)))) [] := by
  by_cases h1 : 100 < n
  · rw [show decide (100 < (n : Int)) = true by simp; omega, cond_true]
    rwa [decide_eq_true (.inl h1)] at h
  rw [show decide (100 < (n : Int)) = false by simp; omega, cond_false]
  by_cases h2 : 100 < m
  · rw [show decide (100 < (m : Int)) = true by simp; omega, cond_true]
    rwa [decide_eq_true (.inr (.inl h2))] at h
  rw [show decide (100 < (m : Int)) = false by simp; omega, cond_false]
  rwa [show decide (100 < n ∨ 100 < m ∨ 1000 < k) = decide (1000 < (k : Int)) by rw [decide_eq_decide]; omega] at h
def greatR (n : Nat) (data : List ByteArray) : Bool := decide (100 < n ∨ 100 < data.length ∨ 1000 < bytesOf data)
def elemErr (w : Int) (i : Int) (d : ByteArray) (t : Int) : Int := if 65472 < d.size then 4 else if t < -1 ∨ 1099511627776 < t ∨ (w ≤ i ∧ t ≠ -1) then 2 else 0
theorem F51_is {b w : Int} {data : List ByteArray} {sent : List Int} {i : Nat} {K : Kn} (hi : i < data.length) (hj : i < sent.length) (h : K (.int .i64 (elemErr w i data[i] sent[i])) []) : F51 (b, w, data, sent, (i : Int), ()) K := by
  unfold F51 F51_J6
  unfold elemErr at h
  dsimp only [Lf.ty, prodL] at h ⊢
  refine At_ofQ hi ?_
  by_cases h1 : 65472 < data[i].size
  · rw [if_pos h1] at h
    rw [show decide (65472 < (data[i].size : Int)) = true by simp; omega, cond_true]; exact h
  rw [if_neg h1] at h
  rw [show decide (65472 < (data[i].size : Int)) = false by simp; omega, cond_false]
  refine At_ofQ hj ?_
  by_cases h2 : sent[i] < -1
  · rw [if_pos (.inl h2)] at h
    rw [decide_eq_true h2, cond_true]; exact h
  rw [decide_eq_false h2, cond_false]
  refine At_ofQ hj ?_
  by_cases h3 : 1099511627776 < sent[i]
  · rw [if_pos (.inr (.inl h3))] at h
    rw [decide_eq_true h3, cond_true]; exact h
  rw [decide_eq_false h3, cond_false]
  by_cases h4 : w ≤ (i : Int)
  · rw [decide_eq_true h4, cond_true]
    refine At_ofQ hj ?_
    by_cases h5 : sent[i] = -1
    · rw [if_neg (by simp [h5])] at h
      simp only [decide_eq_true h5, Bool.not_true, cond_false]; exact h
    · rw [if_pos (.inr (.inr ⟨h4, h5⟩))] at h
      simp only [decide_eq_false h5, Bool.not_false, cond_true]; exact h
  · rw [decide_eq_false h4, cond_false, cond_false]
    rw [if_neg (by simp [h2, h3, h4])] at h
    exact h
def elemAt (w : Int) (data : List ByteArray) (sent : List Int) (i : Int) : Int := elemErr w i (data.getD i.toNat ⟨#[]⟩) (sent.getD i.toNat 0)
def sp51 : Sp := ⟨S51, L51, fun g => 0 ≤ g.2.2.2.2.1 ∧ g.2.2.2.2.1 < (g.2.2.1.length : Int) ∧ g.2.2.2.2.1 < (g.2.2.2.1.length : Int), fun g => .int .i64 (elemAt g.2.1 g.2.2.1 g.2.2.2.1 g.2.2.2.2.1), fun _ => none⟩
theorem sp51_ok : sp51.Ok Tryd.prog 51 true :=
  ⟨fun g K X hp h => F51_ok _ _ X (by
    obtain ⟨b, w, data, sent, i, _⟩ := g
    obtain ⟨h1, h2, h3⟩ := hp
    dsimp only [sp51, Lf.ty, prodL] at h1 h2 h3 h ⊢
    obtain ⟨n, rfl⟩ := Int.eq_ofNat_of_zero_le h1
    have h2' : n < data.length := by omega
    have h3' : n < sent.length := by omega
    refine F51_is h2' h3' ?_
    unfold elemAt at h
    simpa [h2', h3', obL] using h), fun _ _ _ => rfl, fun _ => rfl, fun _ _ => ⟨rfl, rfl⟩⟩
def frmErr (f : Frm) : Int := if okN f.number = false then 2 else if 65472 < f.data.size then 4 else if f.ack = true ∧ f.data ≠ ⟨#[]⟩ then 1 else 0
theorem F16_is {f : Frm} {K : Kn} (h : K (.int .i64 (frmErr f)) []) : F16 (f.ack, f.number, f.data, ()) K := by
  unfold F16 F16_J2
  unfold frmErr at h
  dsimp only [Lf.ty, prodL] at h ⊢
  refine ⟨trivial, ?_⟩
  cases h1 : okN f.number
  · simp only [h1, if_true, Bool.not_false, cond_true] at h ⊢; exact h
  simp only [h1, Bool.true_eq_false, if_false, Bool.not_true, cond_false] at h ⊢
  by_cases h2 : 65472 < f.data.size
  · rw [if_pos h2] at h
    rw [show decide (65472 < (f.data.size : Int)) = true by simp; omega, cond_true]; exact h
  rw [if_neg h2] at h
  rw [show decide (65472 < (f.data.size : Int)) = false by simp; omega, cond_false]
  cases h3 : f.ack
  · simp only [h3, Bool.false_eq_true, false_and, if_false, cond_false] at h ⊢; exact h
  · by_cases h4 : f.data = ⟨#[]⟩
    · simp only [h3, h4, ne_eq, not_true, and_false, if_false, decide_true, Bool.not_true, cond_false, cond_true] at h ⊢; exact h
    · simp only [h3, h4, ne_eq, not_false_eq_true, and_true, if_true, decide_false, Bool.not_false, cond_true] at h ⊢; exact h
def sp16 : Sp := ⟨S16, L16, fun _ => True, fun g => .int .i64 (frmErr ⟨g.1, g.2.1, g.2.2.1⟩), fun _ => none⟩
theorem sp16_ok : sp16.Ok Tryd.prog 16 true :=
  ⟨fun g _ X _ h => F16_ok _ _ X (F16_is (f := ⟨g.1, g.2.1, g.2.2.1⟩) h), fun _ _ _ => rfl, fun _ => rfl, fun _ _ => ⟨rfl, rfl⟩⟩
theorem F20_is {f : Frm} {K : Kn} (h : K (.int .i64 (frmErr f)) []) : F20 (f.ack, f.number, f.data, ()) K := by
  unfold F20 F20_J2
  unfold frmErr at h
  dsimp only [Lf.ty, prodL] at h ⊢
  refine ⟨trivial, ?_⟩
  cases h1 : okN f.number
  · simp only [h1, if_true, Bool.not_false, cond_true] at h ⊢; exact h
  simp only [h1, Bool.true_eq_false, if_false, Bool.not_true, cond_false] at h ⊢
  refine ⟨trivial, ?_⟩
  by_cases h2 : 65472 < f.data.size
  · rw [if_pos h2] at h
    rw [show fitsB f.data = false by unfold fitsB; simp; omega, Bool.not_false, cond_true]; exact h
  rw [if_neg h2] at h
  rw [show fitsB f.data = true by unfold fitsB; simp; omega, Bool.not_true, cond_false]
  cases h3 : f.ack
  · simp only [h3, Bool.false_eq_true, false_and, if_false, cond_false] at h ⊢; exact h
  · by_cases h4 : f.data = ⟨#[]⟩
    · simp only [h3, h4, ne_eq, not_true, and_false, if_false, decide_true, Bool.not_true, cond_false, cond_true] at h ⊢; exact h
    · simp only [h3, h4, ne_eq, not_false_eq_true, and_true, if_true, decide_false, Bool.not_false, cond_true] at h ⊢; exact h
def sp20 : Sp := ⟨S20, L20, fun _ => True, fun g => .int .i64 (frmErr ⟨g.1, g.2.1, g.2.2.1⟩), fun _ => none⟩
theorem sp20_ok : sp20.Ok Tryd.prog 20 true :=
  ⟨fun g _ X _ h => F20_ok _ _ X (F20_is (f := ⟨g.1, g.2.1, g.2.2.1⟩) h), fun _ _ _ => rfl, fun _ => rfl, fun _ _ => ⟨rfl, rfl⟩⟩
theorem F32_is {l : List Int} {v : Int} {K : Kn} (hr : l.length ≤ 4294967296) (h : K (.bool (decide (v ∈ l))) []) : F32 (l, v, ()) K := by
  unfold F32
  dsimp only [Lf.ty, prodL]
  refine ⟨hr, ?_⟩
  rwa [show decide (v ∈ l) = decide (0 ≤ ixOf l v) by
    rw [decide_eq_decide]
    unfold ixOf
    by_cases hm : v ∈ l
    · simp [hm]
    · simp [hm]] at h
def sp32 : Sp := ⟨S32, L32, fun g => g.1.length ≤ 4294967296, fun g => .bool (decide (g.2.1 ∈ g.1)), fun _ => none⟩
theorem sp32_ok : sp32.Ok Tryd.prog 32 true :=
  ⟨fun _ _ X hp h => F32_ok _ _ X (F32_is hp h), fun _ _ _ => rfl, fun _ => rfl, fun _ _ => ⟨rfl, rfl⟩⟩
end Go.Proofs.YtofjpelbjehddaaDoor

/- What functions come to: printed by exf.py. -/
namespace Go.Proofs.YtofjpelbjehddaaDoor
set_option linter.unusedVariables false
set_option linter.unusedSimpArgs false
set_option linter.unusedSectionVars false
open Go.RowKit
attribute [local irreducible] dfun dround
/-- slices.Clone[[]string,string] -/
def H28 : List (Nat × Hint) := []
def J28 : List (Nat × Hint) := [(3, ⟨[], [(0, .leaf)], [], [.sl .str]⟩)]
abbrev S28 : List Sh := [.leaf]
abbrev L28 : List Lf := [.sl .str]
def F28_J2 (K : Kn) (s_1 : List ByteArray) : Prop :=
  Room s_1.length 16 (
  K (.oa .str 0 0) [some (.arr 0 .str s_1)])
def F28 (g : prodL L28) (K : Kn) : Prop :=
  bif decide (g.1.length = 0) then (
    (K (.oa .str 0 0) [some (.arr 0 .str [])]) ∧
  F28_J2 K g.1)
  else (
    F28_J2 K g.1)
theorem F28_eq (g : prodL L28) (K X : Kn) : F28 g K = dfun D (gamX [] []) (isRaw []) H28 J28 8 [.tmp 2] (codeOf Tryd.f28) (argsT S28 L28 g) [] (settleR (virtR .str K)) X := by kernel_rfl
theorem F28_ok (g : prodL L28) (K X : Kn) (h : F28 g K) : FCalls Tryd.prog 28 (argsT S28 L28 g) [] K X :=
  FCalls.virtR (FCalls.settleR (dfun_sound (Γ := gamX [] []) (mu := isRaw []) (H := H28) (J := J28) D_ok (gamX_ok (rs := []) (l := []) (fun p hp => by cases hp) (fun p hp => by cases hp)) gamX_det rfl Tryd.func28 (c := codeOf Tryd.f28) rfl Tryd.ntmps28 (rs := [.tmp 2]) Tryd.results28 (by unfold enters; rw [Tryd.func28]; kernel_rfl) (Nat.le_of_ble_eq_true (by kernel_rfl)) (X := X) (c0 := 0) (Eq.mp (F28_eq g K X) h)))
/-- slices.Clone[[]int,int] -/
def H29 : List (Nat × Hint) := []
def J29 : List (Nat × Hint) := [(3, ⟨[], [(0, .leaf)], [], [.sl .i64]⟩)]
abbrev S29 : List Sh := [.leaf]
abbrev L29 : List Lf := [.sl .i64]
def F29_J2 (K : Kn) (s_1 : List Int) : Prop :=
  Room s_1.length 8 (
  K (.oa .i64 0 0) [some (.arr 0 .i64 s_1)])
def F29 (g : prodL L29) (K : Kn) : Prop :=
  bif decide (g.1.length = 0) then (
    (K (.oa .i64 0 0) [some (.arr 0 .i64 [])]) ∧
  F29_J2 K g.1)
  else (
    F29_J2 K g.1)
theorem F29_eq (g : prodL L29) (K X : Kn) : F29 g K = dfun D (gamX [] []) (isRaw []) H29 J29 8 [.tmp 2] (codeOf Tryd.f29) (argsT S29 L29 g) [] (settleR (virtR .i64 K)) X := by kernel_rfl
theorem F29_ok (g : prodL L29) (K X : Kn) (h : F29 g K) : FCalls Tryd.prog 29 (argsT S29 L29 g) [] K X :=
  FCalls.virtR (FCalls.settleR (dfun_sound (Γ := gamX [] []) (mu := isRaw []) (H := H29) (J := J29) D_ok (gamX_ok (rs := []) (l := []) (fun p hp => by cases hp) (fun p hp => by cases hp)) gamX_det rfl Tryd.func29 (c := codeOf Tryd.f29) rfl Tryd.ntmps29 (rs := [.tmp 2]) Tryd.results29 (by unfold enters; rw [Tryd.func29]; kernel_rfl) (Nat.le_of_ble_eq_true (by kernel_rfl)) (X := X) (c0 := 0) (Eq.mp (F29_eq g K X) h)))
/-- slices.Clone[[]bool,bool] -/
def H36 : List (Nat × Hint) := []
def J36 : List (Nat × Hint) := [(3, ⟨[], [(0, .leaf)], [], [.sl .boo]⟩)]
abbrev S36 : List Sh := [.leaf]
abbrev L36 : List Lf := [.sl .boo]
def F36_J2 (K : Kn) (s_1 : List Bool) : Prop :=
  Room s_1.length 1 (
  K (.oa .boo 0 0) [some (.arr 0 .boo s_1)])
def F36 (g : prodL L36) (K : Kn) : Prop :=
  bif decide (g.1.length = 0) then (
    (K (.oa .boo 0 0) [some (.arr 0 .boo [])]) ∧
  F36_J2 K g.1)
  else (
    F36_J2 K g.1)
theorem F36_eq (g : prodL L36) (K X : Kn) : F36 g K = dfun D (gamX [] []) (isRaw []) H36 J36 8 [.tmp 2] (codeOf Tryd.f36) (argsT S36 L36 g) [] (settleR (virtR .boo K)) X := by kernel_rfl
theorem F36_ok (g : prodL L36) (K X : Kn) (h : F36 g K) : FCalls Tryd.prog 36 (argsT S36 L36 g) [] K X :=
  FCalls.virtR (FCalls.settleR (dfun_sound (Γ := gamX [] []) (mu := isRaw []) (H := H36) (J := J36) D_ok (gamX_ok (rs := []) (l := []) (fun p hp => by cases hp) (fun p hp => by cases hp)) gamX_det rfl Tryd.func36 (c := codeOf Tryd.f36) rfl Tryd.ntmps36 (rs := [.tmp 2]) Tryd.results36 (by unfold enters; rw [Tryd.func36]; kernel_rfl) (Nat.le_of_ble_eq_true (by kernel_rfl)) (X := X) (c0 := 0) (Eq.mp (F36_eq g K X) h)))
/-- quilt/arq.Check -/
def H27 : List (Nat × Hint) := [(8, ⟨[((1, []), none)], [(1, .pt 0 0), (35, .leaf), (36, .leaf)], [.cells [.leaf, .leaf, .leaf, .leaf]], [.int .i64, .int .i64, .int .i64, .int .i64, .sl .str, .sl .i64]⟩)]
def J27 : List (Nat × Hint) := [(2, ⟨[((1, []), none)], [(1, .pt 0 0), (5, .leaf)], [.cells [.leaf, .leaf, .leaf, .leaf]], [.bool, .int .i64, .int .i64, .sl .str, .sl .i64]⟩)]
abbrev S27 : List Sh := [.ag [.leaf, .leaf, .leaf, .leaf]]
abbrev L27 : List Lf := [.int .i64, .int .i64, .sl .str, .sl .i64]
def F27_B4 (K : Kn) (W4 : prodL [.int .i64, .int .i64, .int .i64, .int .i64, .sl .str, .sl .i64] → Prop) (t_3 : Int) (t2_3 : Int) (s1_3 : Int) (s2_3 : Int) (s3_3 : List ByteArray) (s4_3 : List Int) : Prop :=
  bif decide (t2_3 < t_3) then (
    sp51.pre (s1_3, s2_3, s3_3, s4_3, t2_3, ()) ∧
  bif !decide (elemAt s2_3 s3_3 s4_3 t2_3 = 0) then (
    K (.int .i64 (elemAt s2_3 s3_3 s4_3 t2_3)) [])
  else (
    W4 (t_3, IntKind.i64.wrap (t2_3 + 1), s1_3, s2_3, s3_3, s4_3, ())))
  else (
    bif decide (1099511627776 < IntKind.i64.wrap (s1_3 + (s3_3.length : Int))) then (
    K (.int .i64 4) [])
  else (
    K (.int .i64 0) []))
def F27_L4 (K : Kn) (g : prodL [.int .i64, .int .i64, .int .i64, .int .i64, .sl .str, .sl .i64]) : Prop :=
  LoopW (γ := prodL [.int .i64, .int .i64, .int .i64, .int .i64, .sl .str, .sl .i64]) (fun V y => F27_B4 K V y.1 y.2.1 y.2.2.1 y.2.2.2.1 y.2.2.2.2.1 y.2.2.2.2.2.1) g
def F27_J2 (K : Kn) (t_1 : Bool) (s1_1 : Int) (s2_1 : Int) (s3_1 : List ByteArray) (s4_1 : List Int) : Prop :=
  bif t_1 then (
    K (.int .i64 2) [])
  else (
    bif decide (1000 < (s3_1.length : Int)) then (
      K (.int .i64 17) [])
    else (
      bif !decide ((s4_1.length : Int) = (s3_1.length : Int)) then (
        K (.int .i64 1) [])
      else (
        F27_L4 K ((s3_1.length : Int), 0, s1_1, s2_1, s3_1, s4_1, ()))))
def F27 (g : prodL L27) (K : Kn) : Prop :=
  bif decide (g.2.1 < 1) then (
    F27_J2 K true g.1 g.2.1 g.2.2.1 g.2.2.2.1)
  else (
    bif decide (64 < g.2.1) then (
      F27_J2 K true g.1 g.2.1 g.2.2.1 g.2.2.2.1)
    else (
      sp30.pre (g.1, ()) ∧
      F27_J2 K (!(okN g.1)) g.1 g.2.1 g.2.2.1 g.2.2.2.1))
theorem F27_eq (g : prodL L27) (K X : Kn) : F27 g K = dfun D (gamX [] [(30, true, sp30), (51, true, sp51)]) (isRaw []) H27 J27 53 [.tmp 2] (codeOf Tryd.f27) (argsT S27 L27 g) [] (settle0 K) X := by kernel_rfl
theorem F27_ok (g : prodL L27) (K X : Kn) (h : F27 g K) : FCalls Tryd.prog 27 (argsT S27 L27 g) [] K X :=
  FCalls.settle0 (dfun_sound (Γ := gamX [] [(30, true, sp30), (51, true, sp51)]) (mu := isRaw []) (H := H27) (J := J27) D_ok (gamX_ok (rs := []) (l := [(30, true, sp30), (51, true, sp51)]) (fun p hp => by cases hp) (by intro p hp; simp only [List.mem_cons, List.not_mem_nil, or_false] at hp; rcases hp with rfl | rfl <;> first | exact sp30_ok | exact sp51_ok)) gamX_det rfl Tryd.func27 (c := codeOf Tryd.f27) rfl Tryd.ntmps27 (rs := [.tmp 2]) Tryd.results27 (by unfold enters; rw [Tryd.func27]; kernel_rfl) (Nat.le_of_ble_eq_true (by kernel_rfl)) (X := X) (c0 := 0) (Eq.mp (F27_eq g K X) h))
/-- quilt/arq.validReceiver -/
def H33 : List (Nat × Hint) := [(5, ⟨[((1, []), none)], [(1, .pt 0 0), (44, .leaf), (45, .leaf), (46, .leaf)], [.cells [.leaf, .leaf, .leaf]], [.sl .str, .int .i64, .int .i64, .int .i64, .sl .boo, .sl .str]⟩)]
def J33 : List (Nat × Hint) := [(3, ⟨[((1, []), none)], [(1, .pt 0 0), (42, .leaf)], [.cells [.leaf, .leaf, .leaf]], [.bool, .int .i64, .sl .boo, .sl .str]⟩), (8, ⟨[((1, []), none)], [(1, .pt 0 0), (44, .leaf), (45, .leaf), (46, .leaf), (65, .leaf)], [.cells [.leaf, .leaf, .leaf]], [.sl .str, .int .i64, .int .i64, .bool, .int .i64, .sl .boo, .sl .str]⟩)]
abbrev S33 : List Sh := [.ag [.leaf, .leaf, .leaf]]
abbrev L33 : List Lf := [.int .i64, .sl .boo, .sl .str]
def F33_J10 (K : Kn) (W6 : prodL [.sl .str, .int .i64, .int .i64, .int .i64, .sl .boo, .sl .str] → Prop) (t_9 : List ByteArray) (t2_9 : Int) (t3_9 : Int) (t4_9 : Bool) (r1_9 : Int) (r2_9 : List Bool) (r3_9 : List ByteArray) : Prop :=
  bif t4_9 then (
    K (.bool false) [])
  else (
    W6 (t_9, t2_9, IntKind.i64.wrap (t3_9 + 1), r1_9, r2_9, r3_9, ()))
def F33_B6 (K : Kn) (W6 : prodL [.sl .str, .int .i64, .int .i64, .int .i64, .sl .boo, .sl .str] → Prop) (t_5 : List ByteArray) (t2_5 : Int) (t3_5 : Int) (r1_5 : Int) (r2_5 : List Bool) (r3_5 : List ByteArray) : Prop :=
  bif decide (t3_5 < t2_5) then (
    At t_5 t3_5 fun u7 =>
  bif decide (65472 < (u7.size : Int)) then (
    F33_J10 K W6 t_5 t2_5 t3_5 true r1_5 r2_5 r3_5)
  else (
    At r2_5 t3_5 fun u8 =>
    bif !u8 then (
      F33_J10 K W6 t_5 t2_5 t3_5 (!decide (u7 = (⟨#[]⟩ : ByteArray))) r1_5 r2_5 r3_5)
    else (
      F33_J10 K W6 t_5 t2_5 t3_5 false r1_5 r2_5 r3_5)))
  else (
    K (.bool true) [])
def F33_L6 (K : Kn) (g : prodL [.sl .str, .int .i64, .int .i64, .int .i64, .sl .boo, .sl .str]) : Prop :=
  LoopW (γ := prodL [.sl .str, .int .i64, .int .i64, .int .i64, .sl .boo, .sl .str]) (fun V y => F33_B6 K V y.1 y.2.1 y.2.2.1 y.2.2.2.1 y.2.2.2.2.1 y.2.2.2.2.2.1) g
def F33_J4 (K : Kn) (t_3 : Bool) (r1_3 : Int) (r2_3 : List Bool) (r3_3 : List ByteArray) : Prop :=
  bif t_3 then (
    K (.bool false) [])
  else (
    F33_L6 K (r3_3, (r3_3.length : Int), 0, r1_3, r2_3, r3_3, ()))
def F33 (g : prodL L33) (K : Kn) : Prop :=
  sp30.pre (g.1, ()) ∧
  bif !(okN g.1) then (
    F33_J4 K true g.1 g.2.1 g.2.2.1)
  else (
    bif !decide ((g.2.2.1.length : Int) = (g.2.1.length : Int)) then (
      F33_J4 K true g.1 g.2.1 g.2.2.1)
    else (
      bif decide (64 < (g.2.1.length : Int)) then (
        F33_J4 K true g.1 g.2.1 g.2.2.1)
      else (
        bif decide (0 < (g.2.1.length : Int)) then (
          At g.2.1 0 fun u1 =>
          bif u1 then (
            F33_J4 K true g.1 g.2.1 g.2.2.1)
          else (
            At g.2.1 (IntKind.i64.wrap ((g.2.1.length : Int) - 1)) fun u2 =>
            F33_J4 K (!u2) g.1 g.2.1 g.2.2.1))
        else (
          F33_J4 K false g.1 g.2.1 g.2.2.1))))
theorem F33_eq (g : prodL L33) (K X : Kn) : F33 g K = dfun D (gamX [] [(30, true, sp30)]) (isRaw []) H33 J33 67 [.tmp 2] (codeOf Tryd.f33) (argsT S33 L33 g) [] (settle0 K) X := by kernel_rfl
theorem F33_ok (g : prodL L33) (K X : Kn) (h : F33 g K) : FCalls Tryd.prog 33 (argsT S33 L33 g) [] K X :=
  FCalls.settle0 (dfun_sound (Γ := gamX [] [(30, true, sp30)]) (mu := isRaw []) (H := H33) (J := J33) D_ok (gamX_ok (rs := []) (l := [(30, true, sp30)]) (fun p hp => by cases hp) (by intro p hp; simp only [List.mem_cons, List.not_mem_nil, or_false] at hp; subst hp; exact sp30_ok)) gamX_det rfl Tryd.func33 (c := codeOf Tryd.f33) rfl Tryd.ntmps33 (rs := [.tmp 2]) Tryd.results33 (by unfold enters; rw [Tryd.func33]; kernel_rfl) (Nat.le_of_ble_eq_true (by kernel_rfl)) (X := X) (c0 := 0) (Eq.mp (F33_eq g K X) h))
/-- quilt/arq.NewSender -/
def H10 : List (Nat × Hint) := []
def J10 : List (Nat × Hint) := [(2, ⟨[((2, []), none)], [(0, .leaf), (2, .pt 0 0), (9, .leaf)], [.cells [.leaf, .leaf, .nil, .nil]], [.int .i64, .bool, .int .i64, .int .i64]⟩)]
abbrev S10 : List Sh := [.leaf]
abbrev L10 : List Lf := [.int .i64]
def F10_J2 (K : Kn) (window_1 : Int) (t_1 : Bool) (t1_1 : Int) (t2_1 : Int) : Prop :=
  bif t_1 then (
    K (.tu [.ag [.int .i64 0, .int .i64 0, .nil, .nil], .int .i64 2]) [])
  else (
    K (.tu [.ag [.int .i64 0, .int .i64 window_1, .nil, .nil], .int .i64 0]) [])
def F10 (g : prodL L10) (K : Kn) : Prop :=
  bif decide (g.1 < 1) then (
    F10_J2 K g.1 true 0 0)
  else (
    F10_J2 K g.1 (decide (64 < g.1)) 0 0)
theorem F10_eq (g : prodL L10) (K X : Kn) : F10 g K = dfun D (gamX [] []) (isRaw []) H10 J10 13 [.cell 2 36, .tmp 3] (codeOf Tryd.f10) (argsT S10 L10 g) [] (settle0 K) X := by kernel_rfl
theorem F10_ok (g : prodL L10) (K X : Kn) (h : F10 g K) : FCalls Tryd.prog 10 (argsT S10 L10 g) [] K X :=
  FCalls.settle0 (dfun_sound (Γ := gamX [] []) (mu := isRaw []) (H := H10) (J := J10) D_ok (gamX_ok (rs := []) (l := []) (fun p hp => by cases hp) (fun p hp => by cases hp)) gamX_det rfl Tryd.func10 (c := codeOf Tryd.f10) rfl Tryd.ntmps10 (rs := [.cell 2 36, .tmp 3]) Tryd.results10 (by unfold enters; rw [Tryd.func10]; kernel_rfl) (Nat.le_of_ble_eq_true (by kernel_rfl)) (X := X) (c0 := 0) (Eq.mp (F10_eq g K X) h))
end Go.Proofs.YtofjpelbjehddaaDoor

/-
  Arq: what its functions yield, in plain terms, 3.
-/
namespace Go.Proofs.YtofjpelbjehddaaDoor
set_option linter.unusedVariables false
set_option linter.unusedSimpArgs false
set_option linter.unusedSectionVars false
open Go.RowKit

theorem F28_is {l : List ByteArray} {K : Kn} (hr : l.length ≤ 4294967296) (h : K (.oa .str 0 0) [some (.arr 0 .str l)]) : F28 (l, ()) K := by
  unfold F28 F28_J2
  dsimp only [Lf.ty, prodL]
  have hR : Room l.length 16 (K (.oa .str 0 0) [some (.arr 0 .str l)]) := ⟨by omega, h⟩
  by_cases h0 : l.length = 0
  · rw [decide_eq_true h0, cond_true]
    have : l = [] := List.eq_nil_of_length_eq_zero h0
    subst this
    exact ⟨h, hR⟩
  · rw [decide_eq_false h0, cond_false]
    exact hR
def sp28 : Sp := ⟨S28, L28, fun g => g.1.length ≤ 4294967296, fun _ => .oa .str 0 0, fun g => some (.arr 0 .str g.1)⟩
theorem sp28_ok : sp28.Ok Tryd.prog 28 false :=
  ⟨fun _ _ X hp h => F28_ok _ _ X (F28_is hp h), fun _ _ _ => rfl, fun _ => rfl, fun h => by cases h⟩
theorem F29_is {l : List Int} {K : Kn} (hr : l.length ≤ 4294967296) (h : K (.oa .i64 0 0) [some (.arr 0 .i64 l)]) : F29 (l, ()) K := by
  unfold F29 F29_J2
  dsimp only [Lf.ty, prodL]
  have hR : Room l.length 8 (K (.oa .i64 0 0) [some (.arr 0 .i64 l)]) := ⟨by omega, h⟩
  by_cases h0 : l.length = 0
  · rw [decide_eq_true h0, cond_true]
    have : l = [] := List.eq_nil_of_length_eq_zero h0
    subst this
    exact ⟨h, hR⟩
  · rw [decide_eq_false h0, cond_false]
    exact hR
def sp29 : Sp := ⟨S29, L29, fun g => g.1.length ≤ 4294967296, fun _ => .oa .i64 0 0, fun g => some (.arr 0 .i64 g.1)⟩
theorem sp29_ok : sp29.Ok Tryd.prog 29 false :=
  ⟨fun _ _ X hp h => F29_ok _ _ X (F29_is hp h), fun _ _ _ => rfl, fun _ => rfl, fun h => by cases h⟩
theorem F36_is {l : List Bool} {K : Kn} (hr : l.length ≤ 4294967296) (h : K (.oa .boo 0 0) [some (.arr 0 .boo l)]) : F36 (l, ()) K := by
  unfold F36 F36_J2
  dsimp only [Lf.ty, prodL]
  have hR : Room l.length 1 (K (.oa .boo 0 0) [some (.arr 0 .boo l)]) := ⟨by omega, h⟩
  by_cases h0 : l.length = 0
  · rw [decide_eq_true h0, cond_true]
    have : l = [] := List.eq_nil_of_length_eq_zero h0
    subst this
    exact ⟨h, hR⟩
  · rw [decide_eq_false h0, cond_false]
    exact hR
def sp36 : Sp := ⟨S36, L36, fun g => g.1.length ≤ 4294967296, fun _ => .oa .boo 0 0, fun g => some (.arr 0 .boo g.1)⟩
theorem sp36_ok : sp36.Ok Tryd.prog 36 false :=
  ⟨fun _ _ X hp h => F36_ok _ _ X (F36_is hp h), fun _ _ _ => rfl, fun _ => rfl, fun h => by cases h⟩

def elemsErr (w : Int) : Nat → List ByteArray → List Int → Int
  | i, d :: ds, t :: ts => if elemErr w i d t = 0 then elemsErr w (i + 1) ds ts else elemErr w i d t
  | _, _, _ => 0
def Snd.err (s : Snd) : Int :=
  if s.window < 1 ∨ 64 < s.window ∨ okN s.base = false then 2 else if 1000 < s.data.length then 17 else if s.sent.length ≠ s.data.length then 1 else
  if elemsErr s.window 0 s.data s.sent ≠ 0 then elemsErr s.window 0 s.data s.sent else if 1099511627776 < s.base + (s.data.length : Int) then 4 else 0
theorem check_loop {γ : Type} {w : Int} {data : List ByteArray} {sent : List Int} {S : Int → γ} {body : (γ → Prop) → γ → Prop} {A : Int → Prop} {B : Prop} (hl : sent.length = data.length) (hr : data.length ≤ 1000)
    (h1 : ∀ (W : γ → Prop) (n : Nat) (h : n < data.length), (elemErr w n data[n] (sent[n]'(by omega)) = 0 → W (S ((n + 1 : Nat) : Int))) → (elemErr w n data[n] (sent[n]'(by omega)) ≠ 0 → A (elemErr w n data[n] (sent[n]'(by omega)))) → body W (S (n : Int)))
    (h2 : ∀ (W : γ → Prop), B → body W (S (data.length : Int))) (hA : elemsErr w 0 data sent ≠ 0 → A (elemsErr w 0 data sent)) (hB : elemsErr w 0 data sent = 0 → B) : LoopW body (S 0) := by
  refine LoopW.countTo data.length (fun n => S (n : Int)) (fun n => elemsErr w 0 data sent = elemsErr w n (data.drop n) (sent.drop n)) rfl (fun n hn hp W hW => ?_) (by simp)
  by_cases hlt : n < data.length
  · have hs : n < sent.length := by omega
    have e : elemsErr w n (data.drop n) (sent.drop n) = if elemErr w n data[n] sent[n] = 0 then elemsErr w (n + 1) (data.drop (n + 1)) (sent.drop (n + 1)) else elemErr w n data[n] sent[n] := by
      rw [List.drop_eq_getElem_cons hlt, List.drop_eq_getElem_cons hs]; rfl
    rw [e] at hp
    refine h1 W n hlt (fun h0 => hW hlt (by rw [if_pos h0] at hp; exact hp)) fun h0 => ?_
    rw [if_neg h0] at hp
    rw [← hp]
    exact hA (by rw [hp]; exact h0)
  · have hn' : n = data.length := by omega
    subst hn'
    refine h2 W (hB ?_)
    rw [hp]
    simp [elemsErr]
theorem F27_is {s : Snd} {K : Kn} (h : K (.int .i64 s.err) []) : F27 (s.base, s.window, s.data, s.sent, ()) K := by
  obtain ⟨b, w, data, sent⟩ := s
  unfold Snd.err at h
  unfold F27 F27_J2
  dsimp only [Lf.ty, prodL] at h ⊢
  by_cases h1 : w < 1
  · rw [if_pos (.inl h1)] at h
    rw [decide_eq_true h1, cond_true, cond_true]; exact h
  rw [decide_eq_false h1, cond_false]
  by_cases h2 : 64 < w
  · rw [if_pos (.inr (.inl h2))] at h
    rw [decide_eq_true h2, cond_true, cond_true]; exact h
  rw [decide_eq_false h2, cond_false]
  refine ⟨trivial, ?_⟩
  cases h3 : okN b
  · rw [if_pos (.inr (.inr h3))] at h
    rw [Bool.not_false, cond_true]; exact h
  rw [if_neg (by simp [h1, h2, h3])] at h
  rw [Bool.not_true, cond_false]
  by_cases h4 : 1000 < data.length
  · rw [if_pos h4] at h
    rw [show decide (1000 < (data.length : Int)) = true by simp; omega, cond_true]; exact h
  rw [if_neg h4] at h
  rw [show decide (1000 < (data.length : Int)) = false by simp; omega, cond_false]
  by_cases h5 : sent.length = data.length
  case neg =>
    rw [if_pos h5] at h
    rw [show decide ((sent.length : Int) = (data.length : Int)) = false by simp; omega, Bool.not_false, cond_true]; exact h
  rw [if_neg (by simp [h5])] at h
  rw [show decide ((sent.length : Int) = (data.length : Int)) = true by simp; omega, Bool.not_true, cond_false]
  have hb : 0 ≤ b ∧ b ≤ 1099511627776 := of_decide_eq_true h3
  unfold F27_L4
  refine check_loop (w := w) (data := data) (sent := sent) (S := fun i => ((data.length : Int), i, b, w, data, sent, ())) (A := fun e => K (.int .i64 e) []) (B := K (.int .i64 (if 1099511627776 < b + (data.length : Int) then 4 else 0)) []) h5 (by omega) (fun W n hlt hW hA => ?_) (fun W hB => ?_) (fun hne => by rwa [if_pos hne] at h) fun he => by rwa [if_neg (by simp [he])] at h
  · have hs : n < sent.length := by omega
    have e : elemAt w data sent (n : Int) = elemErr w n data[n] sent[n] := by unfold elemAt; simp [hlt, hs]
    dsimp only
    unfold F27_B4
    rw [show decide ((n : Int) < (data.length : Int)) = true by simp; omega, cond_true]
    refine ⟨show 0 ≤ (n : Int) ∧ (n : Int) < (data.length : Int) ∧ (n : Int) < (sent.length : Int) from ⟨by omega, by omega, by omega⟩, ?_⟩
    rw [e]
    by_cases he : elemErr w n data[n] sent[n] = 0
    · rw [decide_eq_true he, Bool.not_true, cond_false, wrapSQ hlt (by omega)]
      exact hW he
    · rw [decide_eq_false he, Bool.not_false, cond_true]
      exact hA he
  · dsimp only
    unfold F27_B4
    rw [show decide ((data.length : Int) < (data.length : Int)) = false by simp, cond_false, wrap64Q (by omega) (by omega)]
    by_cases h6 : 1099511627776 < b + (data.length : Int)
    · rw [if_pos h6] at hB
      rw [decide_eq_true h6, cond_true]; exact hB
    · rw [if_neg h6] at hB
      rw [decide_eq_false h6, cond_false]; exact hB
def sp27 : Sp := ⟨S27, L27, fun _ => True, fun g => .int .i64 (Snd.err ⟨g.1, g.2.1, g.2.2.1, g.2.2.2.1⟩), fun _ => none⟩
theorem sp27_ok : sp27.Ok Tryd.prog 27 true :=
  ⟨fun g _ X _ h => F27_ok _ _ X (F27_is (s := ⟨g.1, g.2.1, g.2.2.1, g.2.2.2.1⟩) h), fun _ _ _ => rfl, fun _ => rfl, fun _ _ => ⟨rfl, rfl⟩⟩
end Go.Proofs.YtofjpelbjehddaaDoor
