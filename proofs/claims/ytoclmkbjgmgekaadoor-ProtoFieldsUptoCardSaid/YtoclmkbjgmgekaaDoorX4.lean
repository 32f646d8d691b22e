import Derived.Test.YtoclmkbjgmgekaaDoorX3
/- What functions come to: printed by exf.py. -/
namespace Go.Proofs.YtoclmkbjgmgekaaDoor
set_option linter.unusedVariables false
set_option linter.unusedSimpArgs false
set_option linter.unusedSectionVars false
open Go.RowKit
attribute [local irreducible] dfun dround
end Go.Proofs.YtoclmkbjgmgekaaDoor

/-
  Csexp: the bounds of the statements; the chapter's examples.
-/
namespace Go.Proofs.YtoclmkbjgmgekaaDoor
set_option linter.unusedVariables false
set_option linter.unusedSimpArgs false
set_option linter.unusedSectionVars false
open Go.RowKit

def grT (x : Sx) : Bool := decide (60 < cnt x 60 20) || lgR x
theorem w1 : dcT (⟨#[40, 51, 58, 97, 98, 99, 50, 58, 45, 55, 41]⟩ : ByteArray) = (⟨true, ⟨#[]⟩, [⟨false, ⟨#[97, 98, 99]⟩, []⟩, ⟨false, ⟨#[45, 55]⟩, []⟩]⟩, 0) := by kernel_rfl
theorem w2 : (dcT (⟨#[40, 51, 58, 97, 98]⟩ : ByteArray)).2 = 11 := by kernel_rfl
theorem w3 : (dcT (⟨#[48, 51, 58, 97, 98, 99]⟩ : ByteArray)).2 = 12 := by kernel_rfl
theorem w4 : nmG ⟨false, ⟨#[45, 55]⟩, []⟩ = (-7, 0) := by kernel_rfl
end Go.Proofs.YtoclmkbjgmgekaaDoor

/- What functions come to: printed by exf.py. -/
namespace Go.Proofs.YtoclmkbjgmgekaaDoor
set_option linter.unusedVariables false
set_option linter.unusedSimpArgs false
set_option linter.unusedSectionVars false
open Go.RowKit
attribute [local irreducible] dfun dround
end Go.Proofs.YtoclmkbjgmgekaaDoor

/-
  Csexp: the laws Read and Ints.
-/
namespace Go.Proofs.YtoclmkbjgmgekaaDoor
set_option linter.unusedVariables false
set_option linter.unusedSimpArgs false
set_option linter.unusedSectionVars false
open Go.RowKit

mutual
theorem smR_refl : ∀ x : Sx, smR x x = true
  | ⟨b, a, l⟩ => by simp [smR, smRs_refl l]
theorem smRs_refl : ∀ l : List Sx, smRs l l = true
  | [] => rfl
  | x :: l => by simp [smRs, smR_refl x, smRs_refl l]
end
theorem bk_sx0 : bkS sx0 = 3 := rfl
theorem rdT_bk (s : ByteArray) : bkS (rdT s).1 ≤ 4 * s.size + 3 := by
  have hs := rdS_sound 12 0 (bl s) (by omega)
  unfold rdT
  cases hr : rdS 12 0 (bl s) with
  | err e => show bkS sx0 ≤ _; rw [bk_sx0]; omega
  | ok a =>
    obtain ⟨x, k, r⟩ := a
    obtain ⟨⟨p, _, p2, p3⟩, _⟩ := hs.1 x k r hr
    have := bl_len s
    rw [p2, List.length_append] at this
    show bkS x ≤ _
    omega
theorem dcT_bk (s : ByteArray) : bkS (dcT s).1 ≤ 4 * s.size + 3 := by
  have := rdT_bk s
  unfold dcT
  split
  · split
    · exact this
    · show bkS sx0 ≤ _; rw [bk_sx0]; omega
  · show bkS sx0 ≤ _; rw [bk_sx0]; omega
theorem dec_len : ∀ (k u : Nat), u < 10 ^ (k + 1) → (Lib.decDigits u).length ≤ k + 1
  | 0, u, h => by rw [Lib.decDigits_one (by omega)]; simp
  | k + 1, u, h => by
    by_cases hu : u < 10
    · rw [Lib.decDigits_one hu]; simp
    · rw [Lib.decDigits, dif_neg hu, List.length_append]
      have := dec_len k (u / 10) (by rw [Nat.pow_succ] at h; omega)
      simp only [List.length_cons, List.length_nil]; omega
theorem bl_dec (n : Int) : bl (decB n) = Lib.itoa n := bl_mk _
theorem decB_size {n : Int} (h : intP n) : (decB n).size ≤ 21 := by
  rw [← bl_len, bl_dec]
  obtain ⟨h1, h2⟩ : -9223372036854775808 ≤ n ∧ n ≤ 9223372036854775807 := h
  unfold Lib.itoa
  split
  · have := dec_len 19 n.natAbs (by omega)
    simp only [List.length_cons]; omega
  · have := dec_len 19 n.toNat (by omega)
    omega
theorem ck_atom {a : ByteArray} (h : a.size ≤ 65536) : ckG ⟨false, a, []⟩ = 0 := by
  simp [ckG, madd, shS, shSs]
  omega
end Go.Proofs.YtoclmkbjgmgekaaDoor

/-
  Csexp: Decimal (the reference's).
-/
namespace Go.Proofs.YtoclmkbjgmgekaaDoor
set_option linter.unusedVariables false
set_option linter.unusedSimpArgs false
set_option linter.unusedSectionVars false
open Go.RowKit

theorem bl_app (a b : ByteArray) : bl (a ++ b) = bl a ++ bl b := by simp [bl, ByteArray.data_append]
theorem dec_min : decB (-9223372036854775808) = (⟨#[45, 57, 50, 50, 51, 51, 55, 50, 48, 51, 54, 56, 53, 52, 55, 55, 53, 56, 48, 56]⟩ : ByteArray) := by
  apply bl_inj
  rw [bl_dec, Lib.itoa, if_pos (by decide)]
  have h := dec_uniq 19 [57, 50, 50, 51, 51, 55, 50, 48, 51, 54, 56, 53, 52, 55, 55, 53, 56, 48, 56] rfl (by decide) (by simp) (.inl (by decide))
  have e : dv 0 [57, 50, 50, 51, 51, 55, 50, 48, 51, 54, 56, 53, 52, 55, 55, 53, 56, 48, 56] = (-9223372036854775808 : Int).natAbs := by kernel_rfl
  rw [e] at h
  rw [h]
  rfl
def dmu (n : Int) : Nat := if n < 0 then n.natAbs + 1 else n.toNat
theorem dec_neg {n : Int} (h : n < 0) : (⟨#[45]⟩ : ByteArray) ++ decB (-n) = decB n := by
  apply bl_inj
  rw [bl_app, bl_dec, bl_dec, Lib.itoa, Lib.itoa, if_pos h, if_neg (by omega), show (-n).toNat = n.natAbs by omega]
  rfl
theorem dec_one {n : Int} (h0 : ¬ n < 0) (h : n < 10) : bStr [48 + n] = decB n := by
  apply bl_inj
  rw [bl_dec, Lib.itoa, if_neg h0, Lib.decDigits_one (by omega)]
  show [UInt8.ofNat (48 + n).toNat] = _
  rw [show (48 + n).toNat = 48 + n.toNat by omega]
theorem dec_more {n : Int} (h0 : ¬ n < 0) (h : ¬ n < 10) : decB (n / 10) ++ bStr [48 + n % 10] = decB n := by
  apply bl_inj
  rw [bl_app, bl_dec, bl_dec, Lib.itoa, Lib.itoa, if_neg h0, if_neg (by omega)]
  show _ ++ [UInt8.ofNat (48 + n % 10).toNat] = _
  rw [show (48 + n % 10).toNat = 48 + n.toNat % 10 by omega, show (n / 10).toNat = n.toNat / 10 by omega]
  conv => rhs; rw [Lib.decDigits, dif_neg (show ¬ n.toNat < 10 by omega)]
theorem F85_is {Z : prodL L85 → Prop} {n : Int} {K : Kn} (hn : intP n) (hZ : ∀ m, intP m → dmu m < dmu n → Z (m, ())) (h : K (.str (decB n)) []) : F85 Z (n, ()) K := by
  have hn' : -9223372036854775808 ≤ n ∧ n ≤ 9223372036854775807 := hn
  unfold F85
  dsimp only [prodL, Lf.ty]
  rw [bif_dec]
  by_cases h0 : n < 0
  · rw [if_pos h0, bif_dec]
    by_cases h1 : n < -9223372036854775807
    · rw [if_pos h1]
      obtain rfl : n = -9223372036854775808 := by omega
      rw [dec_min] at h
      exact h
    · rw [if_neg h1, wrap64 (n := 0 - n) (by omega) (by omega), show 0 - n = -n by omega]
      have hm : intP (-n) := (⟨by omega, by omega⟩ : -9223372036854775808 ≤ -n ∧ -n ≤ 9223372036854775807)
      have hs := decB_size hm
      refine ⟨hZ _ hm (by unfold dmu; rw [if_pos h0, if_neg (by omega)]; omega), ?_, ?_⟩
      · show (1 + (decB (-n)).size) * 1 ≤ 140737488355328
        omega
      · rw [dec_neg h0]; exact h
  · rw [if_neg h0, bif_dec]
    by_cases h1 : n < 10
    · rw [if_pos h1, wrap64 (n := 48 + n) (by omega) (by omega), show IntKind.u8.wrap (48 + n) = 48 + n by (simp [IntKind.wrap, IntKind.bits, IntKind.signed]; omega), dec_one h0 h1]
      exact h
    · rw [if_neg h1]
      have e1 : Int.tdiv n 10 = n / 10 := Int.tdiv_eq_ediv_of_nonneg (by omega)
      have e2 : Int.tmod n 10 = n % 10 := Int.tmod_eq_emod_of_nonneg (by omega)
      rw [e1, e2, wrap64 (n := n / 10) (by omega) (by omega), wrap64 (n := 48 + n % 10) (by omega) (by omega), show IntKind.u8.wrap (48 + n % 10) = 48 + n % 10 by (simp [IntKind.wrap, IntKind.bits, IntKind.signed]; omega)]
      have hm : intP (n / 10) := (⟨by omega, by omega⟩ : -9223372036854775808 ≤ n / 10 ∧ n / 10 ≤ 9223372036854775807)
      have hs := decB_size hm
      refine ⟨by decide, hZ _ hm (by unfold dmu; rw [if_neg h0, if_neg (by omega)]; omega), by decide, ?_, ?_⟩
      · show ((decB (n / 10)).size + 1) * 1 ≤ 140737488355328
        omega
      · rw [dec_more h0 h1]; exact h
def sp85 : Sp := spz85 fun g => intP g.1
theorem sp85_all : ∀ n, (spz85 fun g => intP g.1 ∧ dmu g.1 < n).Ok Tryd.prog 85 true
  | 0 => ⟨fun _ _ _ h _ => absurd h.2 (Nat.not_lt_zero _), fun _ _ _ => rfl, fun _ => rfl, fun _ _ => ⟨rfl, rfl⟩⟩
  | n + 1 => ⟨by
      rintro ⟨k, ⟨⟩⟩ K X ⟨q1, q2⟩ h
      have q2 : dmu k < n + 1 := q2
      exact F85_ok _ (sp85_all n) _ _ X (F85_is q1 (fun m h1 h2 => ⟨h1, (by omega : dmu m < n)⟩) h), fun _ _ _ => rfl, fun _ => rfl, fun _ _ => ⟨rfl, rfl⟩⟩
theorem sp85_ok : sp85.Ok Tryd.prog 85 true :=
  ⟨fun g K X hp h => (sp85_all (dmu g.1 + 1)).calls g K X ⟨hp, Nat.lt_succ_self _⟩ h, fun _ _ _ => rfl, fun _ => rfl, fun _ _ => ⟨rfl, rfl⟩⟩
end Go.Proofs.YtoclmkbjgmgekaaDoor

/- What functions come to: printed by exf.py. -/
namespace Go.Proofs.YtoclmkbjgmgekaaDoor
set_option linter.unusedVariables false
set_option linter.unusedSimpArgs false
set_option linter.unusedSectionVars false
open Go.RowKit
attribute [local irreducible] dfun dround
/-- quilt/quiltref01.Int -/
def H88 : List (Nat × Hint) := []
def J88 : List (Nat × Hint) := [(2, ⟨[((2, []), none)], [(0, .leaf), (2, .pt 0 0), (9, .leaf)], [.cells [.leaf, .leaf, .nil]], [.int .i64, .bool, .bool, .str]⟩)]
abbrev S88 : List Sh := [.leaf]
abbrev L88 : List Lf := [.int .i64]
def F88_J2 (K : Kn) (n_1 : Int) (t_1 : Bool) (t1_1 : Bool) (t2_1 : ByteArray) : Prop :=
  bif t_1 then (
    K (.tu [.ag [.bool false, .str (⟨#[]⟩ : ByteArray), .nil], .int .i64 2]) [])
  else (
    sp85.pre (n_1, ()) ∧
  K (.tu [.ag [.bool false, .str (decB n_1), .nil], .int .i64 0]) [])
def F88 (g : prodL L88) (K : Kn) : Prop :=
  bif decide (g.1 < (-1099511627776)) then (
    F88_J2 K g.1 true false (⟨#[]⟩ : ByteArray))
  else (
    F88_J2 K g.1 (decide (1099511627776 < g.1)) false (⟨#[]⟩ : ByteArray))
theorem F88_eq (g : prodL L88) (K X : Kn) : F88 g K = dfun D (gamX [] [(85, true, sp85)]) (isRaw []) H88 J88 14 [.cell 2 58, .tmp 3] (codeOf Tryd.f88) (argsT S88 L88 g) [] (settle0 K) X := by kernel_rfl
theorem F88_ok (g : prodL L88) (K X : Kn) (h : F88 g K) : FCalls Tryd.prog 88 (argsT S88 L88 g) [] K X :=
  FCalls.settle0 (dfun_sound (Γ := gamX [] [(85, true, sp85)]) (mu := isRaw []) (H := H88) (J := J88) D_ok (gamX_ok (rs := []) (l := [(85, true, sp85)]) (fun p hp => by cases hp) (by intro p hp; simp only [List.mem_cons, List.not_mem_nil, or_false] at hp; subst hp; exact sp85_ok)) gamX_det rfl Tryd.func88 (c := codeOf Tryd.f88) rfl Tryd.ntmps88 (rs := [.cell 2 58, .tmp 3]) Tryd.results88 (by unfold enters; rw [Tryd.func88]; kernel_rfl) (Nat.le_of_ble_eq_true (by kernel_rfl)) (X := X) (c0 := 0) (Eq.mp (F88_eq g K X) h))
end Go.Proofs.YtoclmkbjgmgekaaDoor

/-
  Csexp: Int (the reference's); the two checks agree.
-/
namespace Go.Proofs.YtoclmkbjgmgekaaDoor
set_option linter.unusedVariables false
set_option linter.unusedSimpArgs false
set_option linter.unusedSectionVars false
open Go.RowKit

def sp88 : Sp := ⟨S88, L88, fun g => intP g.1, sp97.res, fun _ => none⟩
theorem sp88_ok : sp88.Ok Tryd.prog 88 false :=
  ⟨by
    rintro ⟨n, ⟨⟩⟩ K X q1 h
    have h : K (.tu [.ag [.bool (intB n).1.isList, .str (intB n).1.atom, .sl false .sexp (intB n).1.list], .int .i64 (intB n).2]) [] := h
    refine FCalls.weak (F88_ok (n, ()) (wkK K) X ?_)
    unfold F88
    dsimp only
    rw [bif_dec]
    unfold intB at h
    by_cases h1 : n < -1099511627776
    · rw [if_pos (.inl h1)] at h
      rw [if_pos h1]
      exact wkK_nil2 h
    · rw [if_neg h1]
      unfold F88_J2
      rw [bif_dec]
      by_cases h2 : 1099511627776 < n
      · rw [if_pos (.inr h2)] at h
        rw [if_pos h2]
        exact wkK_nil2 h
      · rw [if_neg (fun e => e.elim h1 h2)] at h
        rw [if_neg h2]
        exact ⟨q1, wkK_nil2 h⟩, fun _ _ _ => rfl, fun _ => rfl, fun h => (by cases h)⟩

mutual
/-- Nodes, and depth, of what a count goes through. -/
def nn : Sx → Nat
  | ⟨b, _, l⟩ => if b = false then 1 else 1 + nns l
def nns : List Sx → Nat
  | [] => 0
  | x :: l => nn x + nns l
end
mutual
def dd : Sx → Nat
  | ⟨b, _, l⟩ => if b = false then 1 else 1 + dds l
def dds : List Sx → Nat
  | [] => 0
  | x :: l => max (dd x) (dds l)
end
theorem nn_pos (x : Sx) : 1 ≤ nn x := by
  obtain ⟨b, a, l⟩ := x
  simp only [nn]
  split <;> omega
theorem dd_pos (x : Sx) : 1 ≤ dd x := by
  obtain ⟨b, a, l⟩ := x
  simp only [dd]
  split <;> omega
mutual
theorem cnt_small : ∀ (x : Sx) (m d : Int), (nn x : Int) ≤ m → (dd x : Int) ≤ d → cnt x m d = nn x
  | ⟨b, a, l⟩, m, d, h1, h2 => by
    simp only [nn, dd, cnt] at *
    by_cases hb : b = false
    · rw [if_pos hb] at h1 h2 ⊢
      rw [if_neg (by omega), if_pos hb]; rfl
    · rw [if_neg hb] at h1 h2 ⊢
      rw [if_neg (by omega), if_neg hb, cnts_small l m (d - 1) 1 (by omega) (by omega)]; omega
theorem cnts_small : ∀ (l : List Sx) (m d n : Int), n + (nns l : Int) ≤ m → (dds l : Int) ≤ d → cnts l m d n = n + nns l
  | [], m, d, n, _, _ => by simp [cnts, nns]
  | x :: l, m, d, n, h1, h2 => by
    simp only [nns, dds, cnts] at *
    rw [if_pos (by omega), cnt_small x (m - n) d (by omega) (by omega), cnts_small l m d _ (by omega) (by omega)]; omega
end
theorem cnts_over : ∀ (l : List Sx) (m d n : Int), m < n → cnts l m d n = n
  | [], _, _, _, _ => rfl
  | x :: l, m, d, n, h => by simp only [cnts]; rw [if_neg (by omega)]
mutual
theorem cnt_in : ∀ (x : Sx) (m d : Int), 0 ≤ m → cnt x m d ≤ m → (nn x : Int) ≤ m ∧ (dd x : Int) ≤ d
  | ⟨b, a, l⟩, m, d, h0, h => by
    simp only [nn, dd, cnt] at *
    by_cases hc : d < 1 ∨ m < 1
    · rw [if_pos hc] at h; omega
    · rw [if_neg hc] at h
      by_cases hb : b = false
      · rw [if_pos hb, if_pos hb]; omega
      · rw [if_neg hb] at h
        rw [if_neg hb, if_neg hb]
        have := cnts_in l m (d - 1) 1 (by omega) (by omega) h
        omega
theorem cnts_in : ∀ (l : List Sx) (m d n : Int), n ≤ m → 0 ≤ d → cnts l m d n ≤ m → n + (nns l : Int) ≤ m ∧ (dds l : Int) ≤ d
  | [], m, d, n, h0, hd, _ => by simp only [nns, dds]; omega
  | x :: l, m, d, n, h0, hd, h => by
    simp only [nns, dds, cnts] at *
    rw [if_pos h0] at h
    by_cases hc : n + cnt x (m - n) d ≤ m
    · obtain ⟨k1, k2⟩ := cnt_in x (m - n) d (by omega) (by omega)
      rw [cnt_small x (m - n) d k1 k2] at h hc
      have := cnts_in l m d _ hc hd h
      omega
    · rw [cnts_over l m d _ (by omega)] at h
      omega
end
theorem madds_over : ∀ (l : List Sx) (n d : Int), madds l n true d = (n, true)
  | [], _, _ => rfl
  | x :: l, n, d => by simp only [madds, if_true]
mutual
theorem madd_is : ∀ (x : Sx) (n d : Int), (n + (nn x : Int) ≤ 20000 ∧ (dd x : Int) + d - 1 ≤ 12 → madd x n false d = (n + nn x, false)) ∧ ((madd x n false d).2 = false → n + (nn x : Int) ≤ 20000 ∧ (dd x : Int) + d - 1 ≤ 12)
  | ⟨b, a, l⟩, n, d => by
    simp only [nn, dd, madd]
    by_cases hb : b = false
    · simp only [if_pos hb, Bool.false_or]
      refine ⟨fun h => ?_, fun h => ?_⟩
      · rw [decide_eq_false (by omega)]; rfl
      · have := of_decide_eq_false h; omega
    · simp only [if_neg hb, Bool.false_or]
      by_cases hc : 20000 < n + 1 ∨ 12 < d
      · rw [decide_eq_true hc, madds_over]
        exact ⟨fun h => by omega, fun h => by cases h⟩
      · rw [decide_eq_false hc]
        obtain ⟨k1, k2⟩ := madds_is l (n + 1) (d + 1) (by omega) (by omega)
        refine ⟨fun h => ?_, fun h => ?_⟩
        · rw [k1 (by omega)]
          simp only [Prod.mk.injEq, and_true]; omega
        · have := k2 h; omega
theorem madds_is : ∀ (l : List Sx) (n d : Int), n ≤ 20000 → d ≤ 13 → (n + (nns l : Int) ≤ 20000 ∧ (dds l : Int) + d - 1 ≤ 12 → madds l n false d = (n + nns l, false)) ∧ ((madds l n false d).2 = false → n + (nns l : Int) ≤ 20000 ∧ (dds l : Int) + d - 1 ≤ 12)
  | [], n, d, hn, hd => by
    simp only [nns, dds, madds]
    exact ⟨fun _ => by simp, fun _ => by omega⟩
  | x :: l, n, d, hn, hd => by
    simp only [nns, dds, madds]
    rw [if_neg (by simp)]
    obtain ⟨k1, k2⟩ := madd_is x n d
    have hp := nn_pos x
    by_cases hx : n + (nn x : Int) ≤ 20000 ∧ (dd x : Int) + d - 1 ≤ 12
    · rw [k1 hx]
      obtain ⟨m1, m2⟩ := madds_is l (n + nn x) d (by omega) hd
      refine ⟨fun h => ?_, fun h => ?_⟩
      · rw [m1 (by omega)]
        simp only [Prod.mk.injEq, and_true]; omega
      · have := m2 h; omega
    · refine ⟨fun h => by omega, fun h => ?_⟩
      cases hm : (madd x n false d).2 with
      | false => exact absurd (k2 hm) hx
      | true => rw [hm, madds_over] at h; cases h
end
mutual
theorem shape_eq : ∀ x : Sx, shS x = ckR x
  | ⟨b, a, l⟩ => by
    simp only [shS, ckR]
    cases b with
    | false =>
      simp only [if_true, Bool.false_eq_true, false_and, false_or, true_and]
      by_cases hl : 0 < l.length
      · rw [if_pos hl, if_pos hl]
      · rw [if_neg hl, if_neg hl]
        have : l = [] := List.eq_nil_of_length_eq_zero (by omega)
        subst this
        rfl
    | true =>
      simp only [Bool.true_eq_false, if_false, true_and, false_and, or_false]
      by_cases ha : a ≠ ⟨#[]⟩
      · rw [if_pos ha, if_pos ha]
      · rw [if_neg ha, if_neg ha]
        have : a = ⟨#[]⟩ := Classical.not_not.1 ha
        subst this
        rw [if_neg (by decide), shapes_eq l]
theorem shapes_eq : ∀ l : List Sx, shSs l = ckRs l
  | [] => rfl
  | x :: l => by simp only [shSs, ckRs, shape_eq x, shapes_eq l]
end
theorem check_eq (x : Sx) : ckG x = ckN x := by
  unfold ckG ckN
  rw [shape_eq]
  obtain ⟨k1, k2⟩ := madd_is x 0 1
  by_cases h : (0 : Int) + (nn x : Int) ≤ 20000 ∧ (dd x : Int) + 1 - 1 ≤ 12
  · rw [k1 h, if_neg (by simp), if_neg (by rw [cnt_small x 20000 12 (by omega) (by omega)]; omega)]
  · have h1 : (madd x 0 false 1).2 = true := by
      cases hm : (madd x 0 false 1).2 with
      | false => exact absurd (k2 hm) h
      | true => rfl
    rw [if_pos h1, if_pos]
    refine Int.not_le.1 fun hle => h ?_
    have := cnt_in x 20000 12 (by omega) hle
    omega
end Go.Proofs.YtoclmkbjgmgekaaDoor

/- What functions come to: printed by exf.py. -/
namespace Go.Proofs.YtoclmkbjgmgekaaDoor
set_option linter.unusedVariables false
set_option linter.unusedSimpArgs false
set_option linter.unusedSectionVars false
open Go.RowKit
attribute [local irreducible] dfun dround
end Go.Proofs.YtoclmkbjgmgekaaDoor

/-
  Csexp: the law Numbers.
-/
namespace Go.Proofs.YtoclmkbjgmgekaaDoor
set_option linter.unusedVariables false
set_option linter.unusedSimpArgs false
set_option linter.unusedSectionVars false
open Go.RowKit

theorem bk_le {b : Bool} {a : ByteArray} {l : List Sx} {N : Nat} (h : bkL [.bool, .str, .sl .sexp] (b, a, l, ()) ≤ N) : bkS ⟨b, a, l⟩ ≤ N := by
  have e : (l.map (bk .sexp)).sum = (l.map bkS).sum := rfl
  simp only [bkL] at h
  simp only [bkS, bkSs_sum]
  omega
theorem nm_eq (x : Sx) : nmG x = nmN x := by unfold nmG nmN; rw [check_eq]
end Go.Proofs.YtoclmkbjgmgekaaDoor
