/- What functions come to: printed by exf.py. -/
import Derived.Test.YtpbkhdeehlikfaaDoorCE
namespace Go.Proofs.YtpbkhdeehlikfaaDoor
set_option linter.unusedVariables false
set_option linter.unusedSimpArgs false
set_option linter.unusedSectionVars false
open Go.RowKit
attribute [local irreducible] dfun dround
/-- internal/stringslite.HasPrefix -/
def H63 : List (Nat × Hint) := []
def J63 : List (Nat × Hint) := []
abbrev S63 : List Sh := [.leaf, .leaf]
abbrev L63 : List Lf := [.str, .str]
abbrev O63 : List ObSh := []
def F63 (g : prodL L63) (K : Kn) : Prop :=
  bif decide ((g.2.1.size : Int) ≤ (g.1.size : Int)) then (
    (0 : Int) ≤ 0 ∧ 0 ≤ (g.2.1.size : Int) ∧ (g.2.1.size : Int) ≤ (g.1.size : Int) ∧
    K (.bool (decide (g.1.extract (0 : Int).toNat (g.2.1.size : Int).toNat = g.2.1))) [])
  else (
    K (.bool false) [])
theorem F63_eq (g : prodL L63) (K X : Kn) : F63 g K = dfun D (gamX [] []) (isRaw []) H63 J63 18 [.tmp 4] (codeOf Tryd.f63) (argsT S63 L63 g) (storeT S63 O63 L63 g) (settle0 K) X 0 := by kernel_rfl
theorem F63_ok (g : prodL L63) (K X : Kn) (h : F63 g K) : FCalls Tryd.prog 63 (argsT S63 L63 g) (storeT S63 O63 L63 g) K X 0 :=
  FCalls.settle0 (dfun_sound (Γ := gamX [] []) (mu := isRaw []) (H := H63) (J := J63) D_ok (gamX_ok (rs := []) (l := []) (fun p hp => by cases hp) (fun p hp => by cases hp)) gamX_det rfl Tryd.func63 (c := codeOf Tryd.f63) rfl Tryd.ntmps63 (rs := [.tmp 4]) Tryd.results63 (by unfold enters; rw [Tryd.func63]; kernel_rfl) (Nat.le_of_ble_eq_true (by kernel_rfl)) (X := X) (c0 := 0) (Eq.mp (F63_eq g K X) h))
def rw63 : Raw := ⟨S63, O63, L63, 0, fun g K _ => F63 g K⟩
theorem rw63_ok : rw63.Ok Tryd.prog 63 := fun g K X h => F63_ok g K X h
/-- internal/stringslite.TrimPrefix -/
def H52 : List (Nat × Hint) := []
def J52 : List (Nat × Hint) := [(2, ⟨[], [(0, .leaf), (1, .leaf), (7, .leaf)], [], [.str, .str, .bool]⟩)]
abbrev S52 : List Sh := [.leaf, .leaf]
abbrev L52 : List Lf := [.str, .str]
abbrev O52 : List ObSh := []
def F52_J3 (K : Kn) (s_2 : ByteArray) (prefix_2 : ByteArray) (t_2 : Bool) : Prop :=
  bif t_2 then (
    (0 : Int) ≤ (prefix_2.size : Int) ∧ (prefix_2.size : Int) ≤ (s_2.size : Int) ∧ (s_2.size : Int) ≤ (s_2.size : Int) ∧
    K (.str (s_2.extract (prefix_2.size : Int).toNat (s_2.size : Int).toNat)) [])
  else (
    K (.str s_2) [])
def F52 (g : prodL L52) (K : Kn) : Prop :=
  let g1 : prodL [.str, .str] := (g.1, g.2.1, ());
  bif decide ((g1.2.1.size : Int) ≤ (g1.1.size : Int)) then (
    (0 : Int) ≤ 0 ∧ 0 ≤ (g1.2.1.size : Int) ∧ (g1.2.1.size : Int) ≤ (g1.1.size : Int) ∧
    F52_J3 K g.1 g.2.1 (decide (g1.1.extract (0 : Int).toNat (g1.2.1.size : Int).toNat = g1.2.1)))
  else (
    F52_J3 K g.1 g.2.1 false)
theorem F52_eq (g : prodL L52) (K X : Kn) : F52 g K = dfun D (gamX [(63, rw63)] []) (isRaw [(63, rw63)]) H52 J52 13 [.tmp 4] (codeOf Tryd.f52) (argsT S52 L52 g) (storeT S52 O52 L52 g) (settle0 K) X 0 := by kernel_rfl
theorem F52_ok (g : prodL L52) (K X : Kn) (h : F52 g K) : FCalls Tryd.prog 52 (argsT S52 L52 g) (storeT S52 O52 L52 g) K X 0 :=
  FCalls.settle0 (dfun_sound (Γ := gamX [(63, rw63)] []) (mu := isRaw [(63, rw63)]) (H := H52) (J := J52) D_ok (gamX_ok (rs := [(63, rw63)]) (l := []) (by intro p hp; simp only [List.mem_cons, List.not_mem_nil, or_false] at hp; subst hp; exact rw63_ok) (fun p hp => by cases hp)) gamX_det rfl Tryd.func52 (c := codeOf Tryd.f52) rfl Tryd.ntmps52 (rs := [.tmp 4]) Tryd.results52 (by unfold enters; rw [Tryd.func52]; kernel_rfl) (Nat.le_of_ble_eq_true (by kernel_rfl)) (X := X) (c0 := 0) (Eq.mp (F52_eq g K X) h))
def rw52 : Raw := ⟨S52, O52, L52, 0, fun g K _ => F52 g K⟩
theorem rw52_ok : rw52.Ok Tryd.prog 52 := fun g K X h => F52_ok g K X h
/-- strings.TrimPrefix -/
def H46 : List (Nat × Hint) := []
def J46 : List (Nat × Hint) := []
abbrev S46 : List Sh := [.leaf, .leaf]
abbrev L46 : List Lf := [.str, .str]
abbrev O46 : List ObSh := []
def F46_J4 (K : Kn) (s_3 : ByteArray) (prefix_3 : ByteArray) (t_3 : Bool) : Prop :=
  bif t_3 then (
    (0 : Int) ≤ (prefix_3.size : Int) ∧ (prefix_3.size : Int) ≤ (s_3.size : Int) ∧ (s_3.size : Int) ≤ (s_3.size : Int) ∧
    K (.str (s_3.extract (prefix_3.size : Int).toNat (s_3.size : Int).toNat)) [])
  else (
    K (.str s_3) [])
def F46 (g : prodL L46) (K : Kn) : Prop :=
  let g1 : prodL [.str, .str] := (g.1, g.2.1, ());
  let g2 : prodL [.str, .str] := (g1.1, g1.2.1, ());
  bif decide ((g2.2.1.size : Int) ≤ (g2.1.size : Int)) then (
    (0 : Int) ≤ 0 ∧ 0 ≤ (g2.2.1.size : Int) ∧ (g2.2.1.size : Int) ≤ (g2.1.size : Int) ∧
    F46_J4 K g1.1 g1.2.1 (decide (g2.1.extract (0 : Int).toNat (g2.2.1.size : Int).toNat = g2.2.1)))
  else (
    F46_J4 K g1.1 g1.2.1 false)
theorem F46_eq (g : prodL L46) (K X : Kn) : F46 g K = dfun D (gamX [(52, rw52)] []) (isRaw [(52, rw52)]) H46 J46 8 [.tmp 4] (codeOf Tryd.f46) (argsT S46 L46 g) (storeT S46 O46 L46 g) (settle0 K) X 0 := by kernel_rfl
theorem F46_ok (g : prodL L46) (K X : Kn) (h : F46 g K) : FCalls Tryd.prog 46 (argsT S46 L46 g) (storeT S46 O46 L46 g) K X 0 :=
  FCalls.settle0 (dfun_sound (Γ := gamX [(52, rw52)] []) (mu := isRaw [(52, rw52)]) (H := H46) (J := J46) D_ok (gamX_ok (rs := [(52, rw52)]) (l := []) (by intro p hp; simp only [List.mem_cons, List.not_mem_nil, or_false] at hp; subst hp; exact rw52_ok) (fun p hp => by cases hp)) gamX_det rfl Tryd.func46 (c := codeOf Tryd.f46) rfl Tryd.ntmps46 (rs := [.tmp 4]) Tryd.results46 (by unfold enters; rw [Tryd.func46]; kernel_rfl) (Nat.le_of_ble_eq_true (by kernel_rfl)) (X := X) (c0 := 0) (Eq.mp (F46_eq g K X) h))
def rw46 : Raw := ⟨S46, O46, L46, 0, fun g K _ => F46 g K⟩
theorem rw46_ok : rw46.Ok Tryd.prog 46 := fun g K X h => F46_ok g K X h
/-- quilt/quiltref01.decimal -/
def H35 : List (Nat × Hint) := [(4, ⟨[], [(0, .leaf), (3, .leaf)], [], [.str, .int .i64]⟩)]
def J35 : List (Nat × Hint) := [(2, ⟨[], [(0, .leaf), (11, .leaf)], [], [.str, .bool]⟩), (7, ⟨[], [(0, .leaf), (3, .leaf), (39, .leaf)], [], [.str, .int .i64, .bool]⟩)]
abbrev S35 : List Sh := [.leaf]
abbrev L35 : List Lf := [.str]
def spz35 (Z : prodL L35 → Prop) : Sp := ⟨S35, L35, Z, fun g => .bool (decR (bl g.1)), fun _ => none⟩
def F35_J10 (K : Kn) (W6 : prodL [.str, .int .i64] → Prop) (s_9 : ByteArray) (i_9 : Int) (t_9 : Bool) : Prop :=
  bif t_9 then (
    K (.bool false) [])
  else (
    W6 (s_9, IntKind.i64.wrap (i_9 + 1), ()))
def F35_B6 (K : Kn) (W6 : prodL [.str, .int .i64] → Prop) (s_5 : ByteArray) (i_5 : Int) : Prop :=
  bif decide (i_5 < (s_5.size : Int)) then (
    StrAt s_5 i_5 fun b7 =>
  bif decide (b7 < 48) then (
    F35_J10 K W6 s_5 i_5 true)
  else (
    StrAt s_5 i_5 fun b8 =>
    F35_J10 K W6 s_5 i_5 (decide (57 < b8))))
  else (
    bif decide ((s_5.size : Int) = 1) then (
    K (.bool true) [])
  else (
    bif decide (1 < (s_5.size : Int)) then (
      StrAt s_5 0 fun b11 =>
      K (.bool (!decide (b11 = 48))) [])
    else (
      K (.bool false) [])))
def F35_L6 (K : Kn) (g : prodL [.str, .int .i64]) : Prop :=
  LoopW (γ := prodL [.str, .int .i64]) (fun V y => F35_B6 K V y.1 y.2.1) g
def F35_J4 (K : Kn) (Z : prodL L35 → Prop) (s_2 : ByteArray) (t_2 : Bool) : Prop :=
  bif t_2 then (
    bif !decide (s_2 = (⟨#[45, 48]⟩ : ByteArray)) then (
      (0 : Int) ≤ 1 ∧ 1 ≤ (s_2.size : Int) ∧ (s_2.size : Int) ≤ (s_2.size : Int) ∧
      Z (s_2.extract (1 : Int).toNat (s_2.size : Int).toNat, ()) ∧
      bif decR (bl (s_2.extract (1 : Int).toNat (s_2.size : Int).toNat)) then (
        StrAt s_2 1 fun b3 =>
        K (.bool (!decide (b3 = 45))) [])
      else (
        K (.bool false) []))
    else (
      K (.bool false) []))
  else (
    F35_L6 K (s_2, 0, ()))
def F35 (Z : prodL L35 → Prop) (g : prodL L35) (K : Kn) : Prop :=
  bif decide (1 < (g.1.size : Int)) then (
    StrAt g.1 0 fun b1 =>
    F35_J4 K Z g.1 (decide (b1 = 45)))
  else (
    F35_J4 K Z g.1 false)
theorem F35_eq (Z : prodL L35 → Prop) (g : prodL L35) (K X : Kn) : F35 Z g K = dfun D (gamX [] [(35, true, spz35 Z)]) (isRaw []) H35 J35 53 [.tmp 2] (codeOf Tryd.f35) (argsT S35 L35 g) [] (settle0 K) X := by kernel_rfl
theorem F35_ok (Z : prodL L35 → Prop) (hZ : (spz35 Z).Ok Tryd.prog 35 true) (g : prodL L35) (K X : Kn) (h : F35 Z g K) : FCalls Tryd.prog 35 (argsT S35 L35 g) [] K X :=
  FCalls.settle0 (dfun_sound (Γ := gamX [] [(35, true, spz35 Z)]) (mu := isRaw []) (H := H35) (J := J35) D_ok (gamX_ok (rs := []) (l := [(35, true, spz35 Z)]) (fun p hp => by cases hp) (by intro p hp; simp only [List.mem_cons, List.not_mem_nil, or_false] at hp; subst hp; exact hZ)) gamX_det rfl Tryd.func35 (c := codeOf Tryd.f35) rfl Tryd.ntmps35 (rs := [.tmp 2]) Tryd.results35 (by unfold enters; rw [Tryd.func35]; kernel_rfl) (Nat.le_of_ble_eq_true (by kernel_rfl)) (X := X) (c0 := 0) (Eq.mp (F35_eq Z g K X) h))
/-- quilt/csexp.canonical -/
def H33 : List (Nat × Hint) := [(3, ⟨[], [(0, .leaf), (3, .leaf), (8, .leaf), (9, .leaf)], [], [.str, .str, .int .i64, .int .i64]⟩)]
def J33 : List (Nat × Hint) := [(2, ⟨[], [(0, .leaf), (3, .leaf)], [], [.str, .str]⟩), (6, ⟨[], [(0, .leaf), (3, .leaf), (8, .leaf), (9, .leaf), (21, .leaf)], [], [.str, .str, .int .i64, .int .i64, .bool]⟩)]
abbrev S33 : List Sh := [.leaf]
abbrev L33 : List Lf := [.str]
def F33_J12 (K : Kn) (W8 : prodL [.str, .str, .int .i64, .int .i64] → Prop) (s_11 : ByteArray) (digits_11 : ByteArray) (t_11 : Int) (t2_11 : Int) (t3_11 : Bool) : Prop :=
  bif t3_11 then (
    K (.bool false) [])
  else (
    W8 (s_11, digits_11, t_11, IntKind.i64.wrap (t2_11 + 1), ()))
def F33_B8 (K : Kn) (W8 : prodL [.str, .str, .int .i64, .int .i64] → Prop) (s_7 : ByteArray) (digits_7 : ByteArray) (t_7 : Int) (t2_7 : Int) : Prop :=
  bif decide (t2_7 < t_7) then (
    StrAt digits_7 t2_7 fun b9 =>
  bif decide (b9 < 48) then (
    F33_J12 K W8 s_7 digits_7 t_7 t2_7 true)
  else (
    StrAt digits_7 t2_7 fun b10 =>
    F33_J12 K W8 s_7 digits_7 t_7 t2_7 (decide (57 < b10))))
  else (
    bif !decide (digits_7 = (⟨#[]⟩ : ByteArray)) then (
    StrAt digits_7 0 fun b13 =>
    bif !decide (b13 = 48) then (
      K (.bool true) [])
    else (
      K (.bool (decide (s_7 = (⟨#[48]⟩ : ByteArray)))) []))
  else (
    K (.bool false) []))
def F33_L8 (K : Kn) (g : prodL [.str, .str, .int .i64, .int .i64]) : Prop :=
  LoopW (γ := prodL [.str, .str, .int .i64, .int .i64]) (fun V y => F33_B8 K V y.1 y.2.1 y.2.2.1 y.2.2.2.1) g
def F33_J14 (K : Kn) (s_6 : ByteArray) (digits_6 : ByteArray) : Prop :=
  F33_L8 K (s_6, digits_6, (digits_6.size : Int), 0, ())
def F33_J5 (K : Kn) (g : prodL L33) (s_4 : ByteArray) (prefix_4 : ByteArray) (t_4 : Bool) : Prop :=
  bif t_4 then (
    (0 : Int) ≤ (prefix_4.size : Int) ∧ (prefix_4.size : Int) ≤ (s_4.size : Int) ∧ (s_4.size : Int) ≤ (s_4.size : Int) ∧
    F33_J14 K g.1 (s_4.extract (prefix_4.size : Int).toNat (s_4.size : Int).toNat))
  else (
    F33_J14 K g.1 s_4)
def F33 (g : prodL L33) (K : Kn) : Prop :=
  let g1 : prodL [.str, .str] := (g.1, (⟨#[45]⟩ : ByteArray), ());
  let g2 : prodL [.str, .str] := (g1.1, g1.2.1, ());
  let g3 : prodL [.str, .str] := (g2.1, g2.2.1, ());
  bif decide ((g3.2.1.size : Int) ≤ (g3.1.size : Int)) then (
    (0 : Int) ≤ 0 ∧ 0 ≤ (g3.2.1.size : Int) ∧ (g3.2.1.size : Int) ≤ (g3.1.size : Int) ∧
    F33_J5 K g g2.1 g2.2.1 (decide (g3.1.extract (0 : Int).toNat (g3.2.1.size : Int).toNat = g3.2.1)))
  else (
    F33_J5 K g g2.1 g2.2.1 false)
theorem F33_eq (g : prodL L33) (K X : Kn) : F33 g K = dfun D (gamX [(46, rw46)] []) (isRaw [(46, rw46)]) H33 J33 34 [.tmp 2] (codeOf Tryd.f33) (argsT S33 L33 g) [] (settle0 K) X := by kernel_rfl
theorem F33_ok (g : prodL L33) (K X : Kn) (h : F33 g K) : FCalls Tryd.prog 33 (argsT S33 L33 g) [] K X :=
  FCalls.settle0 (dfun_sound (Γ := gamX [(46, rw46)] []) (mu := isRaw [(46, rw46)]) (H := H33) (J := J33) D_ok (gamX_ok (rs := [(46, rw46)]) (l := []) (by intro p hp; simp only [List.mem_cons, List.not_mem_nil, or_false] at hp; subst hp; exact rw46_ok) (fun p hp => by cases hp)) gamX_det rfl Tryd.func33 (c := codeOf Tryd.f33) rfl Tryd.ntmps33 (rs := [.tmp 2]) Tryd.results33 (by unfold enters; rw [Tryd.func33]; kernel_rfl) (Nat.le_of_ble_eq_true (by kernel_rfl)) (X := X) (c0 := 0) (Eq.mp (F33_eq g K X) h))
end Go.Proofs.YtpbkhdeehlikfaaDoor
