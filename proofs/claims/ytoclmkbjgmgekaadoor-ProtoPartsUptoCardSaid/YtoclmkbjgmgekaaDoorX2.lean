import Derived.Test.YtoclmkbjgmgekaaDoorX1
/- What functions come to: printed by exf.py. -/
namespace Go.Proofs.YtoclmkbjgmgekaaDoor
set_option linter.unusedVariables false
set_option linter.unusedSimpArgs false
set_option linter.unusedSectionVars false
open Go.RowKit
attribute [local irreducible] dfun dround
/-- (*quilt/csexp.reader).next -/
def H99 : List (Nat × Hint) := []
def J99 : List (Nat × Hint) := []
abbrev S99 : List Sh := [.pt 0 0]
abbrev L99 : List Lf := [.str, .int .i64, .int .i64]
abbrev O99 : List ObSh := [.cells [.leaf, .leaf, .leaf]]
def F99 (g : prodL L99) (K X : Kn) : Prop :=
  bif decide (g.2.1 = (g.1.size : Int)) then (
    X (.ic 113 (.ag [.int .i64 11])) [some (.cells [.str g.1, .int .i64 g.2.1, .int .i64 g.2.2.1])])
  else (
    StrAt g.1 g.2.1 fun b1 =>
  K (.int .u8 b1) [some (.cells [.str g.1, .int .i64 g.2.1, .int .i64 g.2.2.1])])
theorem F99_eq (g : prodL L99) (K X : Kn) : F99 g K X = dfun D (gamX [] []) (isRaw []) H99 J99 24 [.tmp 2] (codeOf Tryd.f99) (argsT S99 L99 g) (storeT S99 O99 L99 g) (settleD (storeT S99 O99 L99 g).length 0 K) (settleD (storeT S99 O99 L99 g).length 0 X) 0 := by kernel_rfl
theorem F99_ok (g : prodL L99) (K X : Kn) (h : F99 g K X) : FCalls Tryd.prog 99 (argsT S99 L99 g) (storeT S99 O99 L99 g) K X 0 :=
  FCalls.settleX (FCalls.settleD (dfun_sound (Γ := gamX [] []) (mu := isRaw []) (H := H99) (J := J99) D_ok (gamX_ok (rs := []) (l := []) (fun p hp => by cases hp) (fun p hp => by cases hp)) gamX_det rfl Tryd.func99 (c := codeOf Tryd.f99) rfl Tryd.ntmps99 (rs := [.tmp 2]) Tryd.results99 (by unfold enters; rw [Tryd.func99]; kernel_rfl) (Nat.le_of_ble_eq_true (by kernel_rfl)) (X := (settleD (storeT S99 O99 L99 g).length 0 X)) (c0 := 0) (Eq.mp (F99_eq g K X) h)))
end Go.Proofs.YtoclmkbjgmgekaaDoor

/- What functions come to: printed by exf.py. -/
namespace Go.Proofs.YtoclmkbjgmgekaaDoor
set_option linter.unusedVariables false
set_option linter.unusedSimpArgs false
set_option linter.unusedSectionVars false
open Go.RowKit
attribute [local irreducible] dfun dround
/-- internal/stringslite.HasPrefix -/
def H125 : List (Nat × Hint) := []
def J125 : List (Nat × Hint) := []
abbrev S125 : List Sh := [.leaf, .leaf]
abbrev L125 : List Lf := [.str, .str]
abbrev O125 : List ObSh := []
def F125 (g : prodL L125) (K : Kn) : Prop :=
  bif decide ((g.2.1.size : Int) ≤ (g.1.size : Int)) then (
    (0 : Int) ≤ 0 ∧ 0 ≤ (g.2.1.size : Int) ∧ (g.2.1.size : Int) ≤ (g.1.size : Int) ∧
    K (.bool (decide (g.1.extract (0 : Int).toNat (g.2.1.size : Int).toNat = g.2.1))) [])
  else (
    K (.bool false) [])
theorem F125_eq (g : prodL L125) (K X : Kn) : F125 g K = dfun D (gamX [] []) (isRaw []) H125 J125 18 [.tmp 4] (codeOf Tryd.f125) (argsT S125 L125 g) (storeT S125 O125 L125 g) (settle0 K) X 0 := by kernel_rfl
theorem F125_ok (g : prodL L125) (K X : Kn) (h : F125 g K) : FCalls Tryd.prog 125 (argsT S125 L125 g) (storeT S125 O125 L125 g) K X 0 :=
  FCalls.settle0 (dfun_sound (Γ := gamX [] []) (mu := isRaw []) (H := H125) (J := J125) D_ok (gamX_ok (rs := []) (l := []) (fun p hp => by cases hp) (fun p hp => by cases hp)) gamX_det rfl Tryd.func125 (c := codeOf Tryd.f125) rfl Tryd.ntmps125 (rs := [.tmp 4]) Tryd.results125 (by unfold enters; rw [Tryd.func125]; kernel_rfl) (Nat.le_of_ble_eq_true (by kernel_rfl)) (X := X) (c0 := 0) (Eq.mp (F125_eq g K X) h))
def rw125 : Raw := ⟨S125, O125, L125, 0, fun g K _ => F125 g K⟩
theorem rw125_ok : rw125.Ok Tryd.prog 125 := fun g K X h => F125_ok g K X h
/-- internal/stringslite.TrimPrefix -/
def H117 : List (Nat × Hint) := []
def J117 : List (Nat × Hint) := [(2, ⟨[], [(0, .leaf), (1, .leaf), (7, .leaf)], [], [.str, .str, .bool]⟩)]
abbrev S117 : List Sh := [.leaf, .leaf]
abbrev L117 : List Lf := [.str, .str]
abbrev O117 : List ObSh := []
def F117_J3 (K : Kn) (s_2 : ByteArray) (prefix_2 : ByteArray) (t_2 : Bool) : Prop :=
  bif t_2 then (
    (0 : Int) ≤ (prefix_2.size : Int) ∧ (prefix_2.size : Int) ≤ (s_2.size : Int) ∧ (s_2.size : Int) ≤ (s_2.size : Int) ∧
    K (.str (s_2.extract (prefix_2.size : Int).toNat (s_2.size : Int).toNat)) [])
  else (
    K (.str s_2) [])
def F117 (g : prodL L117) (K : Kn) : Prop :=
  let g1 : prodL [.str, .str] := (g.1, g.2.1, ());
  bif decide ((g1.2.1.size : Int) ≤ (g1.1.size : Int)) then (
    (0 : Int) ≤ 0 ∧ 0 ≤ (g1.2.1.size : Int) ∧ (g1.2.1.size : Int) ≤ (g1.1.size : Int) ∧
    F117_J3 K g.1 g.2.1 (decide (g1.1.extract (0 : Int).toNat (g1.2.1.size : Int).toNat = g1.2.1)))
  else (
    F117_J3 K g.1 g.2.1 false)
theorem F117_eq (g : prodL L117) (K X : Kn) : F117 g K = dfun D (gamX [(125, rw125)] []) (isRaw [(125, rw125)]) H117 J117 13 [.tmp 4] (codeOf Tryd.f117) (argsT S117 L117 g) (storeT S117 O117 L117 g) (settle0 K) X 0 := by kernel_rfl
theorem F117_ok (g : prodL L117) (K X : Kn) (h : F117 g K) : FCalls Tryd.prog 117 (argsT S117 L117 g) (storeT S117 O117 L117 g) K X 0 :=
  FCalls.settle0 (dfun_sound (Γ := gamX [(125, rw125)] []) (mu := isRaw [(125, rw125)]) (H := H117) (J := J117) D_ok (gamX_ok (rs := [(125, rw125)]) (l := []) (by intro p hp; simp only [List.mem_cons, List.not_mem_nil, or_false] at hp; subst hp; exact rw125_ok) (fun p hp => by cases hp)) gamX_det rfl Tryd.func117 (c := codeOf Tryd.f117) rfl Tryd.ntmps117 (rs := [.tmp 4]) Tryd.results117 (by unfold enters; rw [Tryd.func117]; kernel_rfl) (Nat.le_of_ble_eq_true (by kernel_rfl)) (X := X) (c0 := 0) (Eq.mp (F117_eq g K X) h))
def rw117 : Raw := ⟨S117, O117, L117, 0, fun g K _ => F117 g K⟩
theorem rw117_ok : rw117.Ok Tryd.prog 117 := fun g K X h => F117_ok g K X h
/-- strings.TrimPrefix -/
def H108 : List (Nat × Hint) := []
def J108 : List (Nat × Hint) := []
abbrev S108 : List Sh := [.leaf, .leaf]
abbrev L108 : List Lf := [.str, .str]
abbrev O108 : List ObSh := []
def F108_J4 (K : Kn) (s_3 : ByteArray) (prefix_3 : ByteArray) (t_3 : Bool) : Prop :=
  bif t_3 then (
    (0 : Int) ≤ (prefix_3.size : Int) ∧ (prefix_3.size : Int) ≤ (s_3.size : Int) ∧ (s_3.size : Int) ≤ (s_3.size : Int) ∧
    K (.str (s_3.extract (prefix_3.size : Int).toNat (s_3.size : Int).toNat)) [])
  else (
    K (.str s_3) [])
def F108 (g : prodL L108) (K : Kn) : Prop :=
  let g1 : prodL [.str, .str] := (g.1, g.2.1, ());
  let g2 : prodL [.str, .str] := (g1.1, g1.2.1, ());
  bif decide ((g2.2.1.size : Int) ≤ (g2.1.size : Int)) then (
    (0 : Int) ≤ 0 ∧ 0 ≤ (g2.2.1.size : Int) ∧ (g2.2.1.size : Int) ≤ (g2.1.size : Int) ∧
    F108_J4 K g1.1 g1.2.1 (decide (g2.1.extract (0 : Int).toNat (g2.2.1.size : Int).toNat = g2.2.1)))
  else (
    F108_J4 K g1.1 g1.2.1 false)
theorem F108_eq (g : prodL L108) (K X : Kn) : F108 g K = dfun D (gamX [(117, rw117)] []) (isRaw [(117, rw117)]) H108 J108 8 [.tmp 4] (codeOf Tryd.f108) (argsT S108 L108 g) (storeT S108 O108 L108 g) (settle0 K) X 0 := by kernel_rfl
theorem F108_ok (g : prodL L108) (K X : Kn) (h : F108 g K) : FCalls Tryd.prog 108 (argsT S108 L108 g) (storeT S108 O108 L108 g) K X 0 :=
  FCalls.settle0 (dfun_sound (Γ := gamX [(117, rw117)] []) (mu := isRaw [(117, rw117)]) (H := H108) (J := J108) D_ok (gamX_ok (rs := [(117, rw117)]) (l := []) (by intro p hp; simp only [List.mem_cons, List.not_mem_nil, or_false] at hp; subst hp; exact rw117_ok) (fun p hp => by cases hp)) gamX_det rfl Tryd.func108 (c := codeOf Tryd.f108) rfl Tryd.ntmps108 (rs := [.tmp 4]) Tryd.results108 (by unfold enters; rw [Tryd.func108]; kernel_rfl) (Nat.le_of_ble_eq_true (by kernel_rfl)) (X := X) (c0 := 0) (Eq.mp (F108_eq g K X) h))
def rw108 : Raw := ⟨S108, O108, L108, 0, fun g K _ => F108 g K⟩
theorem rw108_ok : rw108.Ok Tryd.prog 108 := fun g K X h => F108_ok g K X h
/-- quilt/csexp.canonical -/
def H101 : List (Nat × Hint) := [(3, ⟨[], [(0, .leaf), (3, .leaf), (8, .leaf), (9, .leaf)], [], [.str, .str, .int .i64, .int .i64]⟩)]
def J101 : List (Nat × Hint) := [(2, ⟨[], [(0, .leaf), (3, .leaf)], [], [.str, .str]⟩), (6, ⟨[], [(0, .leaf), (3, .leaf), (8, .leaf), (9, .leaf), (21, .leaf)], [], [.str, .str, .int .i64, .int .i64, .bool]⟩)]
abbrev S101 : List Sh := [.leaf]
abbrev L101 : List Lf := [.str]
def F101_J12 (K : Kn) (W8 : prodL [.str, .str, .int .i64, .int .i64] → Prop) (s_11 : ByteArray) (digits_11 : ByteArray) (t_11 : Int) (t2_11 : Int) (t3_11 : Bool) : Prop :=
  bif t3_11 then (
    K (.bool false) [])
  else (
    W8 (s_11, digits_11, t_11, IntKind.i64.wrap (t2_11 + 1), ()))
def F101_B8 (K : Kn) (W8 : prodL [.str, .str, .int .i64, .int .i64] → Prop) (s_7 : ByteArray) (digits_7 : ByteArray) (t_7 : Int) (t2_7 : Int) : Prop :=
  bif decide (t2_7 < t_7) then (
    StrAt digits_7 t2_7 fun b9 =>
  bif decide (b9 < 48) then (
    F101_J12 K W8 s_7 digits_7 t_7 t2_7 true)
  else (
    StrAt digits_7 t2_7 fun b10 =>
    F101_J12 K W8 s_7 digits_7 t_7 t2_7 (decide (57 < b10))))
  else (
    bif !decide (digits_7 = (⟨#[]⟩ : ByteArray)) then (
    StrAt digits_7 0 fun b13 =>
    bif !decide (b13 = 48) then (
      K (.bool true) [])
    else (
      K (.bool (decide (s_7 = (⟨#[48]⟩ : ByteArray)))) []))
  else (
    K (.bool false) []))
def F101_L8 (K : Kn) (g : prodL [.str, .str, .int .i64, .int .i64]) : Prop :=
  LoopW (γ := prodL [.str, .str, .int .i64, .int .i64]) (fun V y => F101_B8 K V y.1 y.2.1 y.2.2.1 y.2.2.2.1) g
def F101_J14 (K : Kn) (s_6 : ByteArray) (digits_6 : ByteArray) : Prop :=
  F101_L8 K (s_6, digits_6, (digits_6.size : Int), 0, ())
def F101_J5 (K : Kn) (g : prodL L101) (s_4 : ByteArray) (prefix_4 : ByteArray) (t_4 : Bool) : Prop :=
  bif t_4 then (
    (0 : Int) ≤ (prefix_4.size : Int) ∧ (prefix_4.size : Int) ≤ (s_4.size : Int) ∧ (s_4.size : Int) ≤ (s_4.size : Int) ∧
    F101_J14 K g.1 (s_4.extract (prefix_4.size : Int).toNat (s_4.size : Int).toNat))
  else (
    F101_J14 K g.1 s_4)
def F101 (g : prodL L101) (K : Kn) : Prop :=
  let g1 : prodL [.str, .str] := (g.1, (⟨#[45]⟩ : ByteArray), ());
  let g2 : prodL [.str, .str] := (g1.1, g1.2.1, ());
  let g3 : prodL [.str, .str] := (g2.1, g2.2.1, ());
  bif decide ((g3.2.1.size : Int) ≤ (g3.1.size : Int)) then (
    (0 : Int) ≤ 0 ∧ 0 ≤ (g3.2.1.size : Int) ∧ (g3.2.1.size : Int) ≤ (g3.1.size : Int) ∧
    F101_J5 K g g2.1 g2.2.1 (decide (g3.1.extract (0 : Int).toNat (g3.2.1.size : Int).toNat = g3.2.1)))
  else (
    F101_J5 K g g2.1 g2.2.1 false)
theorem F101_eq (g : prodL L101) (K X : Kn) : F101 g K = dfun D (gamX [(108, rw108)] []) (isRaw [(108, rw108)]) H101 J101 34 [.tmp 2] (codeOf Tryd.f101) (argsT S101 L101 g) [] (settle0 K) X := by kernel_rfl
theorem F101_ok (g : prodL L101) (K X : Kn) (h : F101 g K) : FCalls Tryd.prog 101 (argsT S101 L101 g) [] K X :=
  FCalls.settle0 (dfun_sound (Γ := gamX [(108, rw108)] []) (mu := isRaw [(108, rw108)]) (H := H101) (J := J101) D_ok (gamX_ok (rs := [(108, rw108)]) (l := []) (by intro p hp; simp only [List.mem_cons, List.not_mem_nil, or_false] at hp; subst hp; exact rw108_ok) (fun p hp => by cases hp)) gamX_det rfl Tryd.func101 (c := codeOf Tryd.f101) rfl Tryd.ntmps101 (rs := [.tmp 2]) Tryd.results101 (by unfold enters; rw [Tryd.func101]; kernel_rfl) (Nat.le_of_ble_eq_true (by kernel_rfl)) (X := X) (c0 := 0) (Eq.mp (F101_eq g K X) h))
end Go.Proofs.YtoclmkbjgmgekaaDoor

/-
  Csexp: next, the reference's atom, and the decimal forms.
-/
namespace Go.Proofs.YtoclmkbjgmgekaaDoor
set_option linter.unusedVariables false
set_option linter.unusedSimpArgs false
set_option linter.unusedSectionVars false
open Go.RowKit

theorem bl_len (s : ByteArray) : (bl s).length = s.size := by unfold bl; simp
theorem bl_get (s : ByteArray) (n : Nat) : s[n]? = (bl s)[n]? := by
  unfold bl
  by_cases h : n < s.size
  · rw [getElem?_pos s n h, List.getElem?_eq_getElem (by simpa using h)]
    simp [ByteArray.getElem_eq_getElem_data]
  · rw [getElem?_neg s n h, List.getElem?_eq_none (by simpa using Nat.le_of_not_lt h)]
theorem bl_extract (s : ByteArray) (a b : Nat) : bl (s.extract a b) = ((bl s).take b).drop a := by
  unfold bl
  rw [ByteArray.data_extract, Array.toList_extract, List.extract_eq_take_drop, List.drop_take]
theorem bl_inj {s t : ByteArray} (h : bl s = bl t) : s = t := by
  obtain ⟨s⟩ := s
  obtain ⟨t⟩ := t
  unfold bl at h
  simp only at h
  rw [Array.toList_inj.1 h]
theorem bl_mk (l : List UInt8) : bl ⟨l.toArray⟩ = l := by simp [bl]
theorem mk_bl (s : ByteArray) : (⟨(bl s).toArray⟩ : ByteArray) = s := by simp [bl]
theorem StrAt_of {s : ByteArray} {n : Nat} {c : UInt8} {r : List UInt8} {K : Int → Prop} (h : (bl s).drop n = c :: r) (hK : K (c.toNat : Int)) : StrAt s (n : Int) K := by
  refine ⟨by omega, c, ?_, hK⟩
  rw [Int.toNat_natCast, bl_get]
  have := congrArg (·[0]?) h
  simpa using this
theorem drop_next {α : Type} {l r : List α} {n : Nat} {c : α} (h : l.drop n = c :: r) : l.drop (n + 1) = r ∧ n < l.length ∧ r.length + n + 1 = l.length := by
  have h1 := congrArg List.length h
  simp only [List.length_drop, List.length_cons] at h1
  refine ⟨?_, by omega, by omega⟩
  rw [← List.drop_drop, h]; rfl
theorem u8_lt (c : UInt8) : c.toNat < 256 := c.toNat_lt
theorem digit_val {c : UInt8} (h1 : 48 ≤ c.toNat) (h2 : c.toNat ≤ 57) : IntKind.i64.wrap (IntKind.u8.wrap ((c.toNat : Int) - 48)) = ((c.toNat - 48 : Nat) : Int) := by
  have : IntKind.u8.wrap ((c.toNat : Int) - 48) = (c.toNat : Int) - 48 := by simp [IntKind.wrap, IntKind.bits, IntKind.signed]; omega
  rw [this, wrap64 (by omega) (by omega)]; omega
def rw99 : Raw := ⟨S99, O99, L99, 0, fun g K X => nextPre g ∧ nextF g K X⟩
theorem rw99_ok : rw99.Ok Tryd.prog 99 := by
  rintro ⟨s, p, n, ⟨⟩⟩ K X ⟨⟨h1, h2, h3⟩, h⟩
  refine F99_ok _ K X ?_
  obtain ⟨q, rfl⟩ := Int.eq_ofNat_of_zero_le h1
  unfold nextF at h
  unfold F99
  dsimp only [Lf.ty, prodL] at h2 h ⊢
  rw [Int.toNat_natCast] at h
  rw [bif_dec]
  have hl := bl_len s
  cases hd : (bl s).drop q with
  | nil =>
    have := List.drop_eq_nil_iff.1 hd
    rw [hd] at h
    rw [if_pos (by omega)]
    exact h
  | cons c r =>
    obtain ⟨_, d2, _⟩ := drop_next hd
    rw [hd] at h
    rw [if_neg (by omega)]
    exact StrAt_of hd h

/-! ### The reference's atom -/
end Go.Proofs.YtoclmkbjgmgekaaDoor

/- What functions come to: printed by exf.py. -/
namespace Go.Proofs.YtoclmkbjgmgekaaDoor
set_option linter.unusedVariables false
set_option linter.unusedSimpArgs false
set_option linter.unusedSectionVars false
open Go.RowKit
attribute [local irreducible] dfun dround
/-- (*quilt/csexp.reader).length -/
def H100 : List (Nat × Hint) := [(4, ⟨[], [(0, .pt 0 0), (3, .leaf), (4, .leaf)], [.cells [.leaf, .leaf, .leaf]], [.int .i64, .bool, .str, .int .i64, .int .i64]⟩)]
def J100 : List (Nat × Hint) := [(6, ⟨[], [(0, .pt 0 0), (3, .leaf), (4, .leaf), (5, .leaf), (13, .leaf)], [.cells [.leaf, .leaf, .leaf]], [.int .i64, .bool, .int .u8, .bool, .str, .int .i64, .int .i64]⟩), (9, ⟨[], [(0, .pt 0 0), (3, .leaf), (5, .leaf), (35, .leaf)], [.cells [.leaf, .leaf, .leaf]], [.int .i64, .int .u8, .bool, .str, .int .i64, .int .i64]⟩)]
abbrev S100 : List Sh := [.pt 0 0]
abbrev L100 : List Lf := [.str, .int .i64, .int .i64]
abbrev O100 : List ObSh := [.cells [.leaf, .leaf, .leaf]]
def F100_J8 (K X : Kn) (W2 : prodL [.int .i64, .bool, .str, .int .i64, .int .i64] → Prop) (n_7 : Int) (c_7 : Int) (t_7 : Bool) (o01_7 : ByteArray) (o02_7 : Int) (o03_7 : Int) : Prop :=
  bif t_7 then (
    X (.ic 113 (.ag [.int .i64 12])) [some (.cells [.str o01_7, .int .i64 o02_7, .int .i64 o03_7])])
  else (
    bif decide (65536 < IntKind.i64.wrap ((IntKind.i64.wrap (10 * n_7)) + (IntKind.i64.wrap (IntKind.u8.wrap (c_7 - 48))))) then (
    X (.ic 113 (.ag [.int .i64 12])) [some (.cells [.str o01_7, .int .i64 o02_7, .int .i64 o03_7])])
  else (
    W2 (IntKind.i64.wrap ((IntKind.i64.wrap (10 * n_7)) + (IntKind.i64.wrap (IntKind.u8.wrap (c_7 - 48)))), false, o01_7, IntKind.i64.wrap (o02_7 + 1), o03_7, ())))
def F100_J6 (K X : Kn) (W2 : prodL [.int .i64, .bool, .str, .int .i64, .int .i64] → Prop) (n_5 : Int) (first_5 : Bool) (c_5 : Int) (t_5 : Bool) (o01_5 : ByteArray) (o02_5 : Int) (o03_5 : Int) : Prop :=
  bif t_5 then (
    K (.int .i64 n_5) [some (.cells [.str o01_5, .int .i64 (IntKind.i64.wrap (o02_5 + 1)), .int .i64 o03_5])])
  else (
    bif decide (c_5 < 48) then (
    F100_J8 K X W2 n_5 c_5 true o01_5 o02_5 o03_5)
  else (
    bif decide (57 < c_5) then (
      F100_J8 K X W2 n_5 c_5 true o01_5 o02_5 o03_5)
    else (
      bif !first_5 then (
        F100_J8 K X W2 n_5 c_5 (decide (n_5 = 0)) o01_5 o02_5 o03_5)
      else (
        F100_J8 K X W2 n_5 c_5 false o01_5 o02_5 o03_5))))
def F100_B2 (K X : Kn) (W2 : prodL [.int .i64, .bool, .str, .int .i64, .int .i64] → Prop) (n_1 : Int) (first_1 : Bool) (o01_1 : ByteArray) (o02_1 : Int) (o03_1 : Int) : Prop :=
  nextPre (o01_1, o02_1, o03_1, ()) ∧
  Res.go (headR ((bl o01_1).drop o02_1.toNat)) (fun a3 =>
  bif decide ((a3.toNat : Int) = 58) then (
    F100_J6 K X W2 n_1 first_1 (a3.toNat : Int) (!first_1) o01_1 o02_1 o03_1)
  else (
    F100_J6 K X W2 n_1 first_1 (a3.toNat : Int) false o01_1 o02_1 o03_1)) (fun e4 =>
  X (.ic 113 (.ag [.int .i64 e4])) [some (.cells [.str o01_1, .int .i64 o02_1, .int .i64 o03_1])])
def F100_L2 (K X : Kn) (g : prodL [.int .i64, .bool, .str, .int .i64, .int .i64]) : Prop :=
  LoopW (γ := prodL [.int .i64, .bool, .str, .int .i64, .int .i64]) (fun V y => F100_B2 K X V y.1 y.2.1 y.2.2.1 y.2.2.2.1 y.2.2.2.2.1) g
def F100 (g : prodL L100) (K X : Kn) : Prop :=
  F100_L2 K X (0, true, g.1, g.2.1, g.2.2.1, ())
theorem F100_eq (g : prodL L100) (K X : Kn) : F100 g K X = dfun D (gamX [(99, rw99)] []) (isRaw [(99, rw99)]) H100 J100 55 [.tmp 2] (codeOf Tryd.f100) (argsT S100 L100 g) (storeT S100 O100 L100 g) (settleD (storeT S100 O100 L100 g).length 0 K) (settleD (storeT S100 O100 L100 g).length 0 X) 0 := by kernel_rfl
theorem F100_ok (g : prodL L100) (K X : Kn) (h : F100 g K X) : FCalls Tryd.prog 100 (argsT S100 L100 g) (storeT S100 O100 L100 g) K X 0 :=
  FCalls.settleX (FCalls.settleD (dfun_sound (Γ := gamX [(99, rw99)] []) (mu := isRaw [(99, rw99)]) (H := H100) (J := J100) D_ok (gamX_ok (rs := [(99, rw99)]) (l := []) (by intro p hp; simp only [List.mem_cons, List.not_mem_nil, or_false] at hp; subst hp; exact rw99_ok) (fun p hp => by cases hp)) gamX_det rfl Tryd.func100 (c := codeOf Tryd.f100) rfl Tryd.ntmps100 (rs := [.tmp 2]) Tryd.results100 (by unfold enters; rw [Tryd.func100]; kernel_rfl) (Nat.le_of_ble_eq_true (by kernel_rfl)) (X := (settleD (storeT S100 O100 L100 g).length 0 X)) (c0 := 0) (Eq.mp (F100_eq g K X) h)))
end Go.Proofs.YtoclmkbjgmgekaaDoor

/-
  Csexp: the length of an atom; decimal forms.
-/
namespace Go.Proofs.YtoclmkbjgmgekaaDoor
set_option linter.unusedVariables false
set_option linter.unusedSimpArgs false
set_option linter.unusedSectionVars false
open Go.RowKit

theorem F100_is {p : Nat} {s : ByteArray} {k : Int} {K X : Kn} (hp : p ≤ s.size) (hs : s.size ≤ 2147483648) (h : numF (s, (p : Int), k, ()) K X) : F100 (s, (p : Int), k, ()) K X := by
  unfold numF at h
  dsimp only [Lf.ty, prodL] at h
  rw [Int.toNat_natCast] at h
  have hl := bl_len s
  unfold F100 F100_L2
  dsimp only [Lf.ty, prodL]
  refine LoopW.of (fun g => ∃ (first : Bool) (n q : Nat), g = ((n : Int), first, s, (q : Int), k, ()) ∧ q ≤ s.size ∧ n ≤ 65536 ∧ Res.go (numR first n ((bl s).drop q)) (fun a => K (.int .i64 (a.1 : Int)) [some (.cells [.str s, .int .i64 ((s.size : Int) - (a.2.length : Int)), .int .i64 k])]) (fun e => ∀ p : Int, X (.ic 113 (.ag [.int .i64 e])) [some (.cells [.str s, .int .i64 p, .int .i64 k])]))
    (fun g => s.size - g.2.2.2.1.toNat) ?_ ⟨true, 0, p, rfl, hp, by omega, h⟩
  rintro g ⟨first, n, q, rfl, i1, i2, i3⟩ W hW
  unfold F100_B2
  dsimp only
  refine ⟨⟨by dsimp only; omega, by dsimp only; omega, by rw [lim_eq]; exact hs⟩, ?_⟩
  rw [Int.toNat_natCast]
  cases hd : (bl s).drop q with
  | nil =>
    rw [hd] at i3
    exact i3 _
  | cons c r =>
    obtain ⟨d1, d2, d3⟩ := drop_next hd
    rw [hd] at i3
    simp only [numR] at i3
    show bif decide ((c.toNat : Int) = 58) then _ else _
    have w1 : IntKind.i64.wrap ((q : Int) + 1) = ((q + 1 : Nat) : Int) := by rw [wrap64 (by omega) (by omega)]; omega
    have hJ8 : ∀ t : Bool, (t = true ↔ (c.toNat < 48 ∨ 57 < c.toNat ∨ (first = false ∧ n = 0))) → ¬ (c.toNat = 58 ∧ first = false) → F100_J8 K X W (n : Int) (c.toNat : Int) t s (q : Int) k := fun t ht hn => by
      rw [if_neg hn] at i3
      unfold F100_J8
      cases t
      · have hn2 : ¬ (c.toNat < 48 ∨ 57 < c.toNat ∨ (first = false ∧ n = 0)) := fun h => by have := ht.2 h; cases this
        rw [if_neg hn2] at i3
        have h1 : 48 ≤ c.toNat := by omega
        have h2 : c.toNat ≤ 57 := by omega
        have hval : IntKind.i64.wrap ((IntKind.i64.wrap (10 * (n : Int))) + (IntKind.i64.wrap (IntKind.u8.wrap ((c.toNat : Int) - 48)))) = ((10 * n + (c.toNat - 48) : Nat) : Int) := by
          rw [digit_val h1 h2, wrap64 (n := 10 * (n : Int)) (by omega) (by omega), wrap64 (by omega) (by omega)]; omega
        rw [cond_false, hval, bif_dec, w1]
        by_cases h3 : 65536 < 10 * n + (c.toNat - 48)
        · rw [if_pos h3] at i3
          rw [if_pos (by omega)]
          exact i3 _
        · rw [if_neg h3] at i3
          rw [if_neg (by omega)]
          refine hW _ ⟨false, _, q + 1, rfl, by omega, by omega, by rw [d1]; exact i3⟩ ?_
          dsimp only
          rw [Int.toNat_natCast, Int.toNat_natCast]; omega
      · rw [if_pos (ht.1 rfl)] at i3
        exact i3 _
    have hJ6 : ¬ (c.toNat = 58 ∧ first = false) → F100_J6 K X W (n : Int) first (c.toNat : Int) false s (q : Int) k := fun hn => by
      unfold F100_J6
      rw [cond_false, bif_dec]
      split
      · exact hJ8 _ ⟨fun _ => .inl (by omega), fun _ => rfl⟩ hn
      · rw [bif_dec]
        split
        · exact hJ8 _ ⟨fun _ => .inr (.inl (by omega)), fun _ => rfl⟩ hn
        · rw [bif_not]
          cases first
          · rw [cond_false]
            refine hJ8 _ ⟨fun h => .inr (.inr ⟨rfl, by have := of_decide_eq_true h; omega⟩), fun h => decide_eq_true (by omega)⟩ hn
          · rw [cond_true]
            refine hJ8 false ⟨fun h => Bool.noConfusion h, fun h => ?_⟩ hn
            rcases h with h | h | h
            · omega
            · omega
            · cases h.1
    rw [bif_dec]
    by_cases h58 : c.toNat = 58
    · rw [if_pos (by omega)]
      cases first
      · rw [if_pos ⟨h58, rfl⟩] at i3
        unfold F100_J6
        rw [Bool.not_false, cond_true, w1, show ((q + 1 : Nat) : Int) = (s.size : Int) - (r.length : Int) by omega]
        exact i3
      · exact hJ6 (by simp)
    · rw [if_neg (by omega)]
      exact hJ6 (fun h => h58 h.1)
def rw100 : Raw := ⟨S100, O100, L100, 0, fun g K X => nextPre g ∧ numF g K X⟩
theorem rw100_ok : rw100.Ok Tryd.prog 100 := by
  rintro ⟨s, p, n, ⟨⟩⟩ K X ⟨⟨h1, h2, h3⟩, h⟩
  obtain ⟨q, rfl⟩ := Int.eq_ofNat_of_zero_le h1
  rw [lim_eq] at h3
  exact F100_ok _ K X (F100_is (Int.ofNat_le.1 h2) (by dsimp only [Lf.ty] at *; omega) h)

/-! ### Decimal forms -/
def fin35 : List UInt8 → Bool
  | [] => false
  | c :: r => decide (r = []) || !decide (c.toNat = 48)
theorem digs_cons (c : UInt8) (r : List UInt8) : digs (c :: r) = (decide (48 ≤ c.toNat) && decide (c.toNat ≤ 57) && digs r) := rfl
def strP (s : ByteArray) : Prop := s.size ≤ 4294967296
theorem F101_loop {s d : ByteArray} {K : Kn} (hs : d.size ≤ 4294967296) (h : K (.bool (digs (bl d) && !decide (bl d = []) && (!head48 (bl d) || decide (bl s = [48])))) []) : F101_J14 K s d := by
  have hl := bl_len d
  unfold F101_J14 F101_L8
  refine LoopW.fold (bl d) (fun n (_ : Unit) => (s, d, (d.size : Int), (n : Int), ())) (fun r n _ => K (.bool (digs r && !decide (bl d = []) && (!head48 (bl d) || decide (bl s = [48])))) [] ∧ (bl d).drop n = r) (a0 := ()) rfl ⟨h, rfl⟩ (fun _ hp W => ?_) (fun n hn r _ hr hp W hW => ?_)
  · unfold F101_B8
    rw [bif_dec, if_neg (by dsimp only; omega), bif_not, bif_dec]
    have hp := hp.1
    dsimp only
    have hd0 : d = (⟨#[]⟩ : ByteArray) ↔ bl d = [] := ⟨fun e => by rw [e]; rfl, fun e => bl_inj (by rw [e]; rfl)⟩
    cases hb : bl d with
    | nil =>
      rw [hb] at hp
      rw [if_pos (hd0.2 hb)]
      exact hp
    | cons c r =>
      rw [hb] at hp
      rw [if_neg (fun e => by rw [hd0.1 e] at hb; cases hb)]
      refine StrAt_of (n := 0) (by rw [List.drop_zero]; exact hb) ?_
      simp only [digs, List.all_nil, Bool.true_and, reduceCtorEq, decide_false, Bool.not_false, head48] at hp
      have e1 : decide ((c.toNat : Int) = 48) = decide (c.toNat = 48) := decide_eq_decide.2 (by omega)
      have e2 : decide (s = (⟨#[48]⟩ : ByteArray)) = decide (bl s = [48]) := decide_eq_decide.2 ⟨fun e => by rw [e]; rfl, fun e => bl_inj (by rw [e]; rfl)⟩
      rw [bif_not, e1, e2]
      cases hx : decide (c.toNat = 48)
      · rw [hx] at hp; exact hp
      · rw [hx] at hp; exact hp
  · unfold F101_B8
    obtain ⟨hp, hd⟩ := hp
    obtain ⟨d1, _, _⟩ := drop_next hd
    rw [bif_dec, if_pos (by dsimp only; omega)]
    dsimp only
    refine StrAt_of hd ?_
    rw [digs_cons] at hp
    rw [bif_dec]
    split
    · rename_i h1
      rw [decide_eq_false (show ¬ 48 ≤ (bl d)[n].toNat by omega)] at hp
      exact hp
    · rename_i h1
      refine StrAt_of hd ?_
      rw [decide_eq_true (show 48 ≤ (bl d)[n].toNat by omega), Bool.true_and] at hp
      unfold F101_J12
      by_cases h2 : 57 < (bl d)[n].toNat
      · rw [decide_eq_false (show ¬ (bl d)[n].toNat ≤ 57 by omega)] at hp
        rw [decide_eq_true (by omega)]
        exact hp
      · rw [decide_eq_true (show (bl d)[n].toNat ≤ 57 by omega), Bool.true_and] at hp
        rw [decide_eq_false (by omega), cond_false, wrapS hn (by omega)]
        exact hW () ⟨hp, d1⟩
theorem F101_is {s : ByteArray} {K : Kn} (hs : s.size ≤ 4294967296) (h : K (.bool (canR (bl s))) []) : F101 (s, ()) K := by
  have hl := bl_len s
  unfold F101
  dsimp only [Lf.ty, prodL]
  unfold canR at h
  have hsz : (⟨#[45]⟩ : ByteArray).size = 1 := rfl
  have key : (bl s).head? ≠ some 45 → F101_J5 K (s, ()) s (⟨#[45]⟩ : ByteArray) false := fun hn => by
    rw [if_neg hn] at h
    exact F101_loop hs h
  rw [bif_dec, hsz]
  cases hb : bl s with
  | nil =>
    rw [hb] at hl
    simp at hl
    rw [if_neg (by omega)]
    exact key (by rw [hb]; simp)
  | cons c r =>
    rw [hb] at hl
    simp only [List.length_cons] at hl
    rw [if_pos (by omega)]
    refine ⟨by omega, by omega, by omega, ?_⟩
    have e1 : bl (s.extract (0 : Int).toNat ((1 : Nat) : Int).toNat) = [c] := by rw [bl_extract, hb]; rfl
    have e2 : decide (s.extract (0 : Int).toNat ((1 : Nat) : Int).toNat = (⟨#[45]⟩ : ByteArray)) = decide (c = 45) := decide_eq_decide.2 ⟨fun e => by
      rw [e] at e1
      simp [bl] at e1
      exact e1.symm, fun e => bl_inj (by rw [e1, e]; rfl)⟩
    rw [e2]
    by_cases hc : c = 45
    · rw [decide_eq_true hc]
      unfold F101_J5
      rw [cond_true, hsz]
      refine ⟨by omega, by omega, by omega, ?_⟩
      have he : bl (s.extract ((1 : Nat) : Int).toNat (s.size : Int).toNat) = r := by
        rw [bl_extract, hb, Int.toNat_natCast, Int.toNat_natCast, List.take_of_length_le (by simp only [List.length_cons]; omega)]; rfl
      rw [hb, hc] at h
      simp only [List.head?_cons, if_true, List.tail_cons] at h
      refine F101_loop (by rw [← bl_len, he]; omega) ?_
      rw [he, hb, hc]
      exact h
    · rw [decide_eq_false hc]
      exact key (by rw [hb]; simpa using hc)
def sp101 : Sp := ⟨S101, L101, fun g => strP g.1, fun g => .bool (canR (bl g.1)), fun _ => none⟩
theorem sp101_ok : sp101.Ok Tryd.prog 101 true :=
  ⟨by rintro ⟨s, ⟨⟩⟩ K X q1 h; exact F101_ok _ _ X (F101_is q1 h), fun _ _ _ => rfl, fun _ => rfl, fun _ _ => ⟨rfl, rfl⟩⟩
end Go.Proofs.YtoclmkbjgmgekaaDoor

/- What functions come to: printed by exf.py. -/
namespace Go.Proofs.YtoclmkbjgmgekaaDoor
set_option linter.unusedVariables false
set_option linter.unusedSimpArgs false
set_option linter.unusedSectionVars false
open Go.RowKit
attribute [local irreducible] dfun dround
end Go.Proofs.YtoclmkbjgmgekaaDoor

/- What functions come to: printed by exf.py. -/
namespace Go.Proofs.YtoclmkbjgmgekaaDoor
set_option linter.unusedVariables false
set_option linter.unusedSimpArgs false
set_option linter.unusedSectionVars false
open Go.RowKit
attribute [local irreducible] dfun dround
/-- (*quilt/csexp.reader).sexp -/
def H90 : List (Nat × Hint) := [(13, ⟨[((4, []), none), ((7, []), none), ((7, [2]), some .sexp)], [(0, .pt 0 0), (1, .leaf), (4, .pt 1 0), (7, .pt 2 0)], [.cells [.leaf, .leaf, .leaf], .cells [.leaf, .leaf, .nil], .cells [.leaf, .leaf, .oa .sexp 3], .arr .sexp], [.int .i64, .str, .int .i64, .int .i64, .bool, .str, .bool, .str, .sl .sexp]⟩)]
def J90 : List (Nat × Hint) := [(4, ⟨[((4, []), none)], [(0, .pt 0 0), (1, .leaf), (4, .pt 1 0), (5, .leaf), (25, .leaf)], [.cells [.leaf, .leaf, .leaf], .cells [.leaf, .leaf, .nil]], [.int .i64, .int .u8, .bool, .str, .int .i64, .int .i64, .bool, .str]⟩)]
abbrev S90 : List Sh := [.pt 0 0, .leaf]
abbrev L90 : List Lf := [.int .i64, .str, .int .i64, .int .i64]
abbrev O90 : List ObSh := [.cells [.leaf, .leaf, .leaf]]
def rwz90 (Z : prodL L90 → Prop) : Raw := ⟨S90, O90, L90, 0, fun g K X => Z g ∧ sexpF g K X⟩
def F90_B17 (K X : Kn) (Z : prodL L90 → Prop) (W17 : prodL [.int .i64, .str, .int .i64, .int .i64, .bool, .str, .bool, .str, .sl .sexp] → Prop) (level_16 : Int) (o01_16 : ByteArray) (o02_16 : Int) (o03_16 : Int) (t1_16 : Bool) (t2_16 : ByteArray) (out1_16 : Bool) (out2_16 : ByteArray) (out_16 : List Sx) : Prop :=
  nextPre (o01_16, o02_16, o03_16, ()) ∧
  Res.go (headR ((bl o01_16).drop o02_16.toNat)) (fun a18 =>
  bif !decide ((a18.toNat : Int) = 41) then (
    Z (IntKind.i64.wrap (level_16 + 1), o01_16, o02_16, o03_16, ()) ∧
  Res.go (rdS (13 - (IntKind.i64.wrap (level_16 + 1))).toNat o03_16.toNat ((bl o01_16).drop o02_16.toNat)) (fun a20 =>
  Room (out_16.length + [(⟨a20.1.isList, a20.1.atom, a20.1.list⟩ : Sx)].length) 48 (
  W17 (level_16, o01_16, (o01_16.size : Int) - (a20.2.2.length : Int), (a20.2.1 : Int), t1_16, t2_16, out1_16, out2_16, out_16 ++ [(⟨a20.1.isList, a20.1.atom, a20.1.list⟩ : Sx)], ()))) (fun e21 => ∀ (p22 m23 : Int),
  ∀ _ : Tm,
  X (.ic 113 (.ag [.int .i64 e21])) [some (.cells [.str o01_16, .int .i64 p22, .int .i64 m23])]))
  else (
    K (.ag [.bool out1_16, .str out2_16, .sl false .sexp out_16]) [some (.cells [.str o01_16, .int .i64 (IntKind.i64.wrap (o02_16 + 1)), .int .i64 o03_16])])) (fun e19 =>
  X (.ic 113 (.ag [.int .i64 e19])) [some (.cells [.str o01_16, .int .i64 o02_16, .int .i64 o03_16])])
def F90_L17 (K X : Kn) (Z : prodL L90 → Prop) (g : prodL [.int .i64, .str, .int .i64, .int .i64, .bool, .str, .bool, .str, .sl .sexp]) : Prop :=
  LoopW (γ := prodL [.int .i64, .str, .int .i64, .int .i64, .bool, .str, .bool, .str, .sl .sexp]) (fun V y => F90_B17 K X Z V y.1 y.2.1 y.2.2.1 y.2.2.2.1 y.2.2.2.2.1 y.2.2.2.2.2.1 y.2.2.2.2.2.2.1 y.2.2.2.2.2.2.2.1 y.2.2.2.2.2.2.2.2.1) g
def F90_J4 (K X : Kn) (Z : prodL L90 → Prop) (level_3 : Int) (c_3 : Int) (t_3 : Bool) (o01_3 : ByteArray) (o02_3 : Int) (o03_3 : Int) (t1_3 : Bool) (t2_3 : ByteArray) : Prop :=
  bif t_3 then (
    X (.ic 113 (.ag [.int .i64 12])) [some (.cells [.str o01_3, .int .i64 o02_3, .int .i64 o03_3])])
  else (
    bif !decide (c_3 = 40) then (
    nextPre (o01_3, o02_3, o03_3, ()) ∧
    Res.go (numR true 0 ((bl o01_3).drop o02_3.toNat)) (fun a5 =>
    bif decide (IntKind.i64.wrap ((o01_3.size : Int) - ((o01_3.size : Int) - (a5.2.length : Int))) < (a5.1 : Int)) then (
      X (.ic 113 (.ag [.int .i64 11])) [some (.cells [.str o01_3, .int .i64 ((o01_3.size : Int) - (a5.2.length : Int)), .int .i64 o03_3])])
    else (
      (0 : Int) ≤ IntKind.i64.wrap ((IntKind.i64.wrap (((o01_3.size : Int) - (a5.2.length : Int)) + (a5.1 : Int))) - (a5.1 : Int)) ∧ IntKind.i64.wrap ((IntKind.i64.wrap (((o01_3.size : Int) - (a5.2.length : Int)) + (a5.1 : Int))) - (a5.1 : Int)) ≤ IntKind.i64.wrap (((o01_3.size : Int) - (a5.2.length : Int)) + (a5.1 : Int)) ∧ IntKind.i64.wrap (((o01_3.size : Int) - (a5.2.length : Int)) + (a5.1 : Int)) ≤ (o01_3.size : Int) ∧
    K (.ag [.bool false, .str (o01_3.extract (IntKind.i64.wrap ((IntKind.i64.wrap (((o01_3.size : Int) - (a5.2.length : Int)) + (a5.1 : Int))) - (a5.1 : Int))).toNat (IntKind.i64.wrap (((o01_3.size : Int) - (a5.2.length : Int)) + (a5.1 : Int))).toNat), .nil]) [some (.cells [.str o01_3, .int .i64 (IntKind.i64.wrap (((o01_3.size : Int) - (a5.2.length : Int)) + (a5.1 : Int))), .int .i64 o03_3])])) (fun e6 => ∀ p7 : Int,
    X (.ic 113 (.ag [.int .i64 e6])) [some (.cells [.str o01_3, .int .i64 p7, .int .i64 o03_3])]))
  else (
    F90_L17 K X Z (level_3, o01_3, IntKind.i64.wrap (o02_3 + 1), o03_3, t1_3, t2_3, true, (⟨#[]⟩ : ByteArray), [], ())))
def F90 (Z : prodL L90 → Prop) (g : prodL L90) (K X : Kn) : Prop :=
  nextPre (g.2.1, g.2.2.1, g.2.2.2.1, ()) ∧
  Res.go (headR ((bl g.2.1).drop g.2.2.1.toNat)) (fun a1 =>
  bif decide (20000 < IntKind.i64.wrap (g.2.2.2.1 + 1)) then (
    F90_J4 K X Z g.1 (a1.toNat : Int) true g.2.1 g.2.2.1 (IntKind.i64.wrap (g.2.2.2.1 + 1)) false (⟨#[]⟩ : ByteArray))
  else (
    F90_J4 K X Z g.1 (a1.toNat : Int) (decide (12 < g.1)) g.2.1 g.2.2.1 (IntKind.i64.wrap (g.2.2.2.1 + 1)) false (⟨#[]⟩ : ByteArray))) (fun e2 =>
  X (.ic 113 (.ag [.int .i64 e2])) [some (.cells [.str g.2.1, .int .i64 g.2.2.1, .int .i64 g.2.2.2.1])])
theorem F90_eq (Z : prodL L90 → Prop) (g : prodL L90) (K X : Kn) : F90 Z g K X = dfun D (gamX [(90, rwz90 Z), (99, rw99), (100, rw100)] []) (isRaw [(90, rwz90 Z), (99, rw99), (100, rw100)]) H90 J90 98 [.cell 4 58] (codeOf Tryd.f90) (argsT S90 L90 g) (storeT S90 O90 L90 g) (settleG (storeT S90 O90 L90 g).length 0 K) (settleD (storeT S90 O90 L90 g).length 0 X) 0 := by kernel_rfl
theorem F90_ok (Z : prodL L90 → Prop) (hZ : (rwz90 Z).Ok Tryd.prog 90) (g : prodL L90) (K X : Kn) (h : F90 Z g K X) : FCalls Tryd.prog 90 (argsT S90 L90 g) (storeT S90 O90 L90 g) K X 0 :=
  FCalls.settleX (FCalls.settleG (dfun_sound (Γ := gamX [(90, rwz90 Z), (99, rw99), (100, rw100)] []) (mu := isRaw [(90, rwz90 Z), (99, rw99), (100, rw100)]) (H := H90) (J := J90) D_ok (gamX_ok (rs := [(90, rwz90 Z), (99, rw99), (100, rw100)]) (l := []) (by intro p hp; simp only [List.mem_cons, List.not_mem_nil, or_false] at hp; rcases hp with rfl | rfl | rfl <;> first | exact hZ | exact rw99_ok | exact rw100_ok) (fun p hp => by cases hp)) gamX_det rfl Tryd.func90 (c := codeOf Tryd.f90) rfl Tryd.ntmps90 (rs := [.cell 4 58]) Tryd.results90 (by unfold enters; rw [Tryd.func90]; kernel_rfl) (Nat.le_of_ble_eq_true (by kernel_rfl)) (X := (settleD (storeT S90 O90 L90 g).length 0 X)) (c0 := 0) (Eq.mp (F90_eq Z g K X) h)))
end Go.Proofs.YtoclmkbjgmgekaaDoor

/-
  Csexp: what the reader yields, in general.
-/
namespace Go.Proofs.YtoclmkbjgmgekaaDoor
set_option linter.unusedVariables false
set_option linter.unusedSimpArgs false
set_option linter.unusedSectionVars false
open Go.RowKit

theorem numR_ok : ∀ (l : List UInt8) (first : Bool) (n m : Nat) (r : List UInt8), numR first n l = .ok (m, r) → (∃ p, p ≠ [] ∧ l = p ++ r) ∧ (n ≤ 65536 → m ≤ 65536)
  | [], _, _, _, _, h => by simp [numR] at h
  | c :: l, first, n, m, r, h => by
    simp only [numR] at h
    split at h
    · simp only [Res.ok.injEq, Prod.mk.injEq] at h
      obtain ⟨rfl, rfl⟩ := h
      exact ⟨⟨[c], by simp, rfl⟩, fun h => h⟩
    · split at h
      · cases h
      · split at h
        · cases h
        · rename_i h3
          obtain ⟨⟨p, _, hp⟩, hm⟩ := numR_ok l false _ m r h
          exact ⟨⟨c :: p, by simp, by rw [hp]; rfl⟩, fun _ => hm (by omega)⟩
theorem numR_err : ∀ (l : List UInt8) (first : Bool) (n : Nat) (e : Int), numR first n l = .err e → e = 11 ∨ e = 12
  | [], _, _, _, h => by simp only [numR, Res.err.injEq] at h; exact .inl h.symm
  | c :: l, first, n, e, h => by
    simp only [numR] at h
    split at h
    · cases h
    · split at h
      · simp only [Res.err.injEq] at h; exact .inr h.symm
      · split at h
        · simp only [Res.err.injEq] at h; exact .inr h.symm
        · exact numR_err l false _ e h
theorem atomR_ok {l a r : List UInt8} (h : atomR l = .ok (a, r)) : ∃ p, p ≠ [] ∧ l = p ++ a ++ r := by
  unfold atomR atomG at h
  split at h
  · cases h
  · rename_i n q hq
    split at h
    · cases h
    · simp only [Res.ok.injEq, Prod.mk.injEq] at h
      obtain ⟨rfl, rfl⟩ := h
      obtain ⟨⟨p, h1, h2⟩, _⟩ := numR_ok l true 0 n q hq
      exact ⟨p, h1, by rw [List.append_assoc, List.take_append_drop]; exact h2⟩
theorem atomR_err {l : List UInt8} {e : Int} (h : atomR l = .err e) : e = 11 ∨ e = 12 := by
  unfold atomR atomG at h
  split at h
  · rename_i e' h'
    simp only [Res.err.injEq] at h
    subst h
    exact numR_err l true 0 _ h'
  · split at h
    · simp only [Res.err.injEq] at h; exact .inl h.symm
    · cases h
/-- What a reader may yield: it goes on, counts what it reads, and its errors are two. -/
def Sound (f : Nat → List UInt8 → Res (Sx × Nat × List UInt8) Int) : Prop :=
  ∀ (k : Nat) (l : List UInt8), k ≤ 20000 → (∀ x k' r, f k l = .ok (x, k', r) → (∃ p, p ≠ [] ∧ l = p ++ r ∧ bkS x ≤ 4 * p.length) ∧ k < k' ∧ k' ≤ 20000) ∧ ∀ e, f k l = .err e → e = 11 ∨ e = 12
theorem bkSs_append : ∀ (l m : List Sx), bkSs (l ++ m) = bkSs l + bkSs m
  | [], m => by simp [bkSs]
  | x :: l, m => by simp only [List.cons_append, bkSs, bkSs_append l m]; omega
theorem rdL_sound {f : Nat → List UInt8 → Res (Sx × Nat × List UInt8) Int} (hf : Sound f) : ∀ (m k : Nat) (l : List UInt8) (acc : List Sx), k ≤ 20000 → l.length < m →
    (∀ xs k' r, rdL f m k l acc = .ok (xs, k', r) → (∃ p ys, p ≠ [] ∧ l = p ++ r ∧ xs = acc ++ ys ∧ bkSs ys ≤ 4 * (p.length - 1)) ∧ k ≤ k' ∧ k' ≤ 20000) ∧ ∀ e, rdL f m k l acc = .err e → e = 11 ∨ e = 12
  | 0, _, _, _, _, h => absurd h (Nat.not_lt_zero _)
  | m + 1, k, [], acc, hk, _ => ⟨fun _ _ _ h => (by simp [rdL] at h), fun e h => by simp only [rdL, Res.err.injEq] at h; exact .inl h.symm⟩
  | m + 1, k, c :: l, acc, hk, hm => by
    simp only [rdL]
    by_cases hc : c.toNat = 41
    · rw [if_pos hc]
      refine ⟨fun xs k' r h => ?_, fun e h => by cases h⟩
      simp only [Res.ok.injEq, Prod.mk.injEq] at h
      obtain ⟨rfl, rfl, rfl⟩ := h
      exact ⟨⟨[c], [], by simp, rfl, by simp, by simp [bkSs]⟩, Nat.le_refl _, hk⟩
    · rw [if_neg hc]
      obtain ⟨h1, h2⟩ := hf k (c :: l) hk
      cases hx : f k (c :: l) with
      | err e => exact ⟨fun _ _ _ h => (by cases h), fun e' h => by simp only [Res.err.injEq] at h; subst h; exact h2 e hx⟩
      | ok a =>
        obtain ⟨x, k', r'⟩ := a
        obtain ⟨⟨p, hp, hl, hb⟩, q1, q2⟩ := h1 x k' r' hx
        have hlen : r'.length < m := by
          have := congrArg List.length hl
          have : 0 < p.length := List.length_pos_iff.2 hp
          simp only [List.length_append, List.length_cons] at *; omega
        obtain ⟨g1, g2⟩ := rdL_sound hf m k' r' (acc ++ [x]) q2 hlen
        refine ⟨fun xs k2 r h => ?_, fun e h => g2 e h⟩
        obtain ⟨⟨p2, ys, hp2, hl2, hxs, hbs⟩, q3, q4⟩ := g1 xs k2 r h
        have hpl : 0 < p2.length := List.length_pos_iff.2 hp2
        have hpl1 : 0 < p.length := List.length_pos_iff.2 hp
        refine ⟨⟨p ++ p2, x :: ys, by simp [hp], by rw [hl, hl2, List.append_assoc], by rw [hxs]; simp, ?_⟩, by omega, q4⟩
        simp only [bkSs, List.length_append]; omega
theorem rdS_sound : ∀ (d : Nat), Sound (rdS d)
  | 0 => fun k l hk => by
    cases l with
    | nil => exact ⟨fun _ _ _ h => (by simp [rdS] at h), fun e h => by simp only [rdS, Res.err.injEq] at h; exact .inl h.symm⟩
    | cons c l => exact ⟨fun _ _ _ h => (by simp [rdS] at h), fun e h => by simp only [rdS, Res.err.injEq] at h; exact .inr h.symm⟩
  | d + 1 => fun k l hk => by
    cases l with
    | nil => exact ⟨fun _ _ _ h => (by simp [rdS] at h), fun e h => by simp only [rdS, Res.err.injEq] at h; exact .inl h.symm⟩
    | cons c l =>
      simp only [rdS]
      by_cases h1 : 20000 < k + 1
      · rw [if_pos h1]
        exact ⟨fun _ _ _ h => (by cases h), fun e h => by simp only [Res.err.injEq] at h; exact .inr h.symm⟩
      rw [if_neg h1]
      by_cases h2 : c.toNat ≠ 40
      · rw [if_pos h2]
        cases ha : atomR (c :: l) with
        | err e => exact ⟨fun _ _ _ h => (by cases h), fun e' h => by simp only [Res.err.injEq] at h; subst h; exact atomR_err ha⟩
        | ok a =>
          obtain ⟨a, r⟩ := a
          refine ⟨fun x k' r' h => ?_, fun e h => by cases h⟩
          simp only [Res.ok.injEq, Prod.mk.injEq] at h
          obtain ⟨rfl, rfl, rfl⟩ := h
          obtain ⟨p, hp, hl⟩ := atomR_ok ha
          have : 0 < p.length := List.length_pos_iff.2 hp
          refine ⟨⟨p ++ a, by simp [hp], hl, ?_⟩, by omega, by omega⟩
          have hsz : (⟨a.toArray⟩ : ByteArray).size = a.length := by rw [← bl_len, bl_mk]
          simp only [bkS, bkSs, hsz, List.length_append]; omega
      · rw [if_neg h2]
        obtain ⟨g1, g2⟩ := rdL_sound (rdS_sound d) (l.length + 1) (k + 1) l [] (by omega) (Nat.lt_succ_self _)
        cases hx : rdL (rdS d) (l.length + 1) (k + 1) l [] with
        | err e => exact ⟨fun _ _ _ h => (by cases h), fun e' h => by simp only [Res.err.injEq] at h; subst h; exact g2 e hx⟩
        | ok a =>
          obtain ⟨xs, k', r⟩ := a
          refine ⟨fun x k2 r2 h => ?_, fun e h => by cases h⟩
          simp only [Res.ok.injEq, Prod.mk.injEq] at h
          obtain ⟨rfl, rfl, rfl⟩ := h
          obtain ⟨⟨p, ys, hp, hl, hxs, hb⟩, q1, q2⟩ := g1 xs k' r hx
          rw [List.nil_append] at hxs
          subst hxs
          have : 0 < p.length := List.length_pos_iff.2 hp
          have hsz : (⟨#[]⟩ : ByteArray).size = 0 := rfl
          refine ⟨⟨c :: p, by simp, by rw [hl]; rfl, ?_⟩, by omega, q2⟩
          simp only [bkS, hsz, List.length_cons]; omega
/-- In a string: where the rest begins. -/
theorem drop_rest {s : ByteArray} {q : Nat} {p r : List UInt8} (h : (bl s).drop q = p ++ r) (hq : q ≤ s.size) : (s.size : Int) - (r.length : Int) = ((q + p.length : Nat) : Int) ∧ (bl s).drop (q + p.length) = r ∧ q + p.length ≤ s.size := by
  have hl := bl_len s
  have h1 := congrArg List.length h
  simp only [List.length_drop, List.length_append] at h1
  refine ⟨by omega, ?_, by omega⟩
  rw [← List.drop_drop, h, List.drop_left' rfl]
end Go.Proofs.YtoclmkbjgmgekaaDoor

/-
  Csexp: the two readers.
-/
namespace Go.Proofs.YtoclmkbjgmgekaaDoor
set_option linter.unusedVariables false
set_option linter.unusedSimpArgs false
set_option linter.unusedSectionVars false
open Go.RowKit

theorem wkK_of {K : Kn} {r : T} {s : St} (h : K r s) : wkK K r s := ⟨r, Weak.refl r, h⟩
theorem weak_nil {b : Bool} {a : ByteArray} : Weak (.ag [.bool b, .str a, .nil]) (.ag [.bool b, .str a, .sl false .sexp []]) :=
  Weak.ag (WeakL.cons (Weak.refl _) (WeakL.cons (Weak.refl _) (WeakL.cons (Weak.nil .sexp) WeakL.nil)))
theorem wkK_nil2 {K : Kn} {b : Bool} {a : ByteArray} {v : T} {s : St} (h : K (.tu [.ag [.bool b, .str a, .sl false .sexp []], v]) s) : wkK K (.tu [.ag [.bool b, .str a, .nil], v]) s :=
  ⟨_, Weak.tu (WeakL.cons weak_nil (WeakL.cons (Weak.refl _) WeakL.nil)), h⟩
theorem wkK_nil1 {K : Kn} {b : Bool} {a : ByteArray} {s : St} (h : K (.ag [.bool b, .str a, .sl false .sexp []]) s) : wkK K (.ag [.bool b, .str a, .nil]) s := ⟨_, weak_nil, h⟩
theorem res_err {α : Type} {K : α → Prop} {X : Int → Prop} {e : Int} (h : Res.go (.err e : Res α Int) K X) : X e := h

/-! ### The reference's reader -/
/-! ### The program's reader -/
theorem F90_is {Z : prodL L90 → Prop} {s : ByteArray} {p k d : Nat} {K X : Kn} (hp : p ≤ s.size) (hs : s.size ≤ 2147483648) (hk : k ≤ 20000) (hd : d ≤ 12)
    (hZ : ∀ q k' : Nat, q ≤ s.size → k' ≤ 20000 → 1 ≤ d → Z (13 - ((d - 1 : Nat) : Int), s, (q : Int), (k' : Int), ())) (h : sexpF (13 - (d : Int), s, (p : Int), (k : Int), ()) K X) : F90 Z (13 - (d : Int), s, (p : Int), (k : Int), ()) (wkK K) X := by
  unfold sexpF at h
  dsimp only [Lf.ty, prodL] at h
  rw [Int.toNat_natCast, Int.toNat_natCast, show (13 - (13 - (d : Int))).toNat = d by omega] at h
  have hl := bl_len s
  have hpre : ∀ q : Nat, q ≤ s.size → ∀ n : Int, nextPre (s, (q : Int), n, ()) := fun q hq n => ⟨by dsimp only; omega, by dsimp only; omega, by rw [lim_eq]; exact hs⟩
  unfold F90
  dsimp only [Lf.ty, prodL]
  refine ⟨hpre p hp _, ?_⟩
  rw [Int.toNat_natCast]
  cases hdr : (bl s).drop p with
  | nil =>
    rw [hdr, show rdS d k [] = .err 11 by cases d <;> rfl] at h
    exact h _ _
  | cons c r =>
    obtain ⟨d1, d2, d3⟩ := drop_next hdr
    rw [hdr] at h
    show bif decide (20000 < IntKind.i64.wrap ((k : Int) + 1)) then _ else _
    have w1 : IntKind.i64.wrap ((k : Int) + 1) = ((k + 1 : Nat) : Int) := by rw [wrap64 (by omega) (by omega)]; omega
    have w2 : IntKind.i64.wrap ((p : Int) + 1) = ((p + 1 : Nat) : Int) := by rw [wrap64 (by omega) (by omega)]; omega
    rw [w1, bif_dec]
    cases d with
    | zero =>
      have hX : ∀ a b : Int, X (.ic 113 (.ag [.int .i64 12])) [some (.cells [.str s, .int .i64 a, .int .i64 b])] := h
      split
      · unfold F90_J4; exact hX _ _
      · unfold F90_J4; rw [decide_eq_true (by omega), cond_true]; exact hX _ _
    | succ d =>
      simp only [rdS] at h
      by_cases hk1 : 20000 < k + 1
      · rw [if_pos hk1] at h
        rw [if_pos (by omega)]
        unfold F90_J4
        exact h _ _
      rw [if_neg hk1] at h
      rw [if_neg (by omega), decide_eq_false (by omega)]
      unfold F90_J4
      rw [cond_false, bif_not, bif_dec]
      by_cases hc : c.toNat = 40
      · rw [if_pos (by omega), w2]
        rw [if_neg (by simpa using hc)] at h
        unfold F90_L17
        let Kok (a : List Sx × Nat × List UInt8) : Prop := K (.ag [.bool true, .str (⟨#[]⟩ : ByteArray), .sl false .sexp a.1]) [some (.cells [.str s, .int .i64 ((s.size : Int) - (a.2.2.length : Int)), .int .i64 (a.2.1 : Int)])]
        let Kerr (e : Int) : Prop := ∀ (p m : Int), X (.ic 113 (.ag [.int .i64 e])) [some (.cells [.str s, .int .i64 p, .int .i64 m])]
        have h0 : Res.go (rdL (rdS d) (r.length + 1) (k + 1) r []) Kok Kerr := by
          cases hx : rdL (rdS d) (r.length + 1) (k + 1) r [] with
          | ok a => rw [hx] at h; exact h
          | err e => rw [hx] at h; exact h
        refine LoopW.of (fun g => ∃ (q k' : Nat) (acc : List Sx) (m : Nat), g = (13 - ((d + 1 : Nat) : Int), s, (q : Int), (k' : Int), false, (⟨#[]⟩ : ByteArray), true, (⟨#[]⟩ : ByteArray), acc, ()) ∧ q ≤ s.size ∧ k' ≤ 20000 ∧ acc.length ≤ q ∧ ((bl s).drop q).length < m ∧ Res.go (rdL (rdS d) m k' ((bl s).drop q) acc) Kok Kerr)
          (fun g => s.size - g.2.2.1.toNat) ?_ ⟨p + 1, k + 1, [], r.length + 1, rfl, by omega, by omega, by simp, by rw [d1]; omega, by rw [d1]; exact h0⟩
        rintro g ⟨q, k', acc, m, rfl, i1, i2, i3, i4, i5⟩ W hW
        unfold F90_B17
        dsimp only
        refine ⟨hpre q i1 _, ?_⟩
        rw [Int.toNat_natCast]
        obtain ⟨m', rfl⟩ : ∃ m', m = m' + 1 := ⟨m - 1, by omega⟩
        cases hdq : (bl s).drop q with
        | nil =>
          rw [hdq] at i5
          exact i5 _ _
        | cons c2 r2 =>
          obtain ⟨e1, e2, e3⟩ := drop_next hdq
          rw [hdq] at i5 i4
          show bif !decide ((c2.toNat : Int) = 41) then _ else _
          rw [bif_not, bif_dec]
          by_cases h41 : c2.toNat = 41
          · rw [if_pos (by omega)]
            simp only [rdL, if_pos h41] at i5
            rw [wrap64 (n := (q : Int) + 1) (by omega) (by omega), show (q : Int) + 1 = (s.size : Int) - (r2.length : Int) by omega]
            exact wkK_of i5
          · rw [if_neg (by omega)]
            simp only [rdL, if_neg h41] at i5
            have w3 : IntKind.i64.wrap (13 - ((d + 1 : Nat) : Int) + 1) = 13 - (d : Int) := by rw [wrap64 (by omega) (by omega)]; omega
            rw [w3]
            have hz := hZ q k' i1 i2 (by omega)
            rw [show d + 1 - 1 = d from rfl] at hz
            refine ⟨hz, ?_⟩
            rw [Int.toNat_natCast, show (13 - (13 - (d : Int))).toNat = d by omega]
            obtain ⟨s1, s2⟩ := rdS_sound d k' (c2 :: r2) i2
            cases hx : rdS d k' (c2 :: r2) with
            | err e =>
              rw [hx] at i5
              exact fun a b _ => i5 a b
            | ok a =>
              obtain ⟨x, k2, l2⟩ := a
              rw [hx] at i5
              obtain ⟨⟨pp, p1, p2, p3⟩, q1, q2⟩ := s1 x k2 l2 hx
              have hppl : 0 < pp.length := List.length_pos_iff.2 p1
              obtain ⟨z1, z2, z3⟩ := drop_rest (hdq.trans p2) i1
              show Room _ _ _
              refine ⟨by simp only [List.length_cons, List.length_nil]; omega, ?_⟩
              rw [Sx.eta]
              simp only
              rw [z1]
              refine hW _ ⟨q + pp.length, k2, acc ++ [x], m', rfl, z3, q2, by simp; omega, ?_, by rw [z2]; exact i5⟩ ?_
              · rw [z2]
                have := congrArg List.length p2
                simp only [List.length_append, List.length_cons] at this i4; omega
              · dsimp only
                rw [Int.toNat_natCast, Int.toNat_natCast]; omega
      · rw [if_neg (by omega)]
        rw [if_pos hc] at h
        refine ⟨hpre p hp _, ?_⟩
        rw [Int.toNat_natCast, hdr]
        unfold atomR atomG at h
        cases ha : numR true 0 (c :: r) with
        | err e =>
          rw [ha] at h
          exact fun a => h _ _
        | ok a =>
          obtain ⟨n, l2⟩ := a
          rw [ha] at h
          obtain ⟨⟨pp, p1, p2⟩, hn⟩ := numR_ok _ _ _ _ _ ha
          obtain ⟨z1, z2, z3⟩ := drop_rest (hdr.trans p2) hp
          have hz2 := congrArg List.length z2
          rw [List.length_drop] at hz2
          have hn := hn (by omega)
          simp only at h
          show bif decide (IntKind.i64.wrap ((s.size : Int) - ((s.size : Int) - (l2.length : Int))) < (n : Int)) then _ else _
          rw [z1, bif_dec, wrap64 (n := (s.size : Int) - ((p + pp.length : Nat) : Int)) (by omega) (by omega), wrap64 (n := ((p + pp.length : Nat) : Int) + (n : Int)) (by omega) (by omega), wrap64 (by omega) (by omega)]
          by_cases hlt : l2.length < n
          · rw [if_pos hlt] at h
            rw [if_pos (by omega)]
            exact h _ _
          · rw [if_neg hlt] at h
            rw [if_neg (by omega)]
            refine ⟨by omega, by omega, by omega, wkK_nil1 ?_⟩
            have e1 : s.extract (((p + pp.length : Nat) : Int) + (n : Int) - (n : Int)).toNat (((p + pp.length : Nat) : Int) + (n : Int)).toNat = ⟨(l2.take n).toArray⟩ := by
              apply bl_inj
              rw [show bl ⟨(l2.take n).toArray⟩ = l2.take n from bl_mk _, bl_extract, show (((p + pp.length : Nat) : Int) + (n : Int) - (n : Int)).toNat = p + pp.length by omega, show (((p + pp.length : Nat) : Int) + (n : Int)).toNat = p + pp.length + n by omega, List.drop_take, z2, show p + pp.length + n - (p + pp.length) = n by omega]
            have e2 : ((p + pp.length : Nat) : Int) + (n : Int) = (s.size : Int) - ((l2.drop n).length : Int) := by rw [List.length_drop]; omega
            rw [e1, e2]
            exact h
def rw90 : Raw := rwz90 sexpPre
theorem rw90_all : ∀ n : Nat, (rwz90 fun g => sexpPre g ∧ 13 - g.1 < (n : Int)).Ok Tryd.prog 90
  | 0 => by
    have key : ∀ (lv : Int) (s : ByteArray) (p k : Int), sexpPre (lv, s, p, k, ()) → 13 - lv < 0 → False := fun lv s p k h h2 => by
      obtain ⟨⟨_, _⟩, _⟩ : (1 ≤ lv ∧ lv ≤ 13) ∧ (0 ≤ p ∧ p ≤ (s.size : Int) ∧ s.size ≤ 2 * lim) ∧ (0 ≤ k ∧ k ≤ 20000) := h
      omega
    rintro ⟨lv, s, p, k, ⟨⟩⟩ K X ⟨⟨h, h2⟩, _⟩
    exact (key lv s p k h h2).elim
  | n + 1 => by
    have key : ∀ (lv : Int) (s : ByteArray) (p k : Int) (K X : Kn), sexpPre (lv, s, p, k, ()) → 13 - lv < ((n + 1 : Nat) : Int) → sexpF (lv, s, p, k, ()) K X → FCalls Tryd.prog 90 (argsT S90 L90 (lv, s, p, k, ())) (storeT S90 O90 L90 (lv, s, p, k, ())) K X := fun lv s p k K X h m hF => by
      obtain ⟨⟨e1, e2⟩, ⟨a1, a2, a3⟩, b1, b2⟩ : (1 ≤ lv ∧ lv ≤ 13) ∧ (0 ≤ p ∧ p ≤ (s.size : Int) ∧ s.size ≤ 2 * lim) ∧ (0 ≤ k ∧ k ≤ 20000) := h
      obtain ⟨p, rfl⟩ := Int.eq_ofNat_of_zero_le a1
      obtain ⟨k, rfl⟩ := Int.eq_ofNat_of_zero_le b1
      obtain ⟨d, rfl⟩ : ∃ d : Nat, lv = 13 - (d : Int) := ⟨(13 - lv).toNat, by omega⟩
      rw [lim_eq] at a3
      have hz : ∀ q k' : Nat, q ≤ s.size → k' ≤ 20000 → 1 ≤ d → ((1 ≤ 13 - ((d - 1 : Nat) : Int) ∧ 13 - ((d - 1 : Nat) : Int) ≤ 13) ∧ (0 ≤ (q : Int) ∧ (q : Int) ≤ (s.size : Int) ∧ s.size ≤ 2 * lim) ∧ (0 ≤ (k' : Int) ∧ (k' : Int) ≤ 20000)) ∧ 13 - (13 - ((d - 1 : Nat) : Int)) < (n : Int) := fun q k' q1 q2 q3 => by rw [lim_eq]; omega
      exact FCalls.weak (F90_ok _ (rw90_all n) _ _ X (F90_is (X := X) (by omega) a3 (by omega) (by omega) hz hF))
    rintro ⟨lv, s, p, k, ⟨⟩⟩ K X ⟨⟨h, m⟩, hF⟩
    exact key lv s p k K X h m hF
theorem rw90_ok : rw90.Ok Tryd.prog 90 := fun g K X h => rw90_all ((13 - g.1).toNat + 1) g K X ⟨⟨h.1, by
  have key : ∀ (lv : Int) (s : ByteArray) (p k : Int), sexpPre (lv, s, p, k, ()) → 13 - lv < (((13 - lv).toNat + 1 : Nat) : Int) := fun lv s p k h => by
    obtain ⟨⟨_, _⟩, _⟩ : (1 ≤ lv ∧ lv ≤ 13) ∧ (0 ≤ p ∧ p ≤ (s.size : Int) ∧ s.size ≤ 2 * lim) ∧ (0 ≤ k ∧ k ≤ 20000) := h
    omega
  obtain ⟨lv, s, p, k, ⟨⟩⟩ := g
  exact key lv s p k h.1⟩, h.2⟩
end Go.Proofs.YtoclmkbjgmgekaaDoor
