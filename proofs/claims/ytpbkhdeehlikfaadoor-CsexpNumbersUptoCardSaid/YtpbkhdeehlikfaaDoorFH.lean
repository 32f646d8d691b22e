/- What functions come to: printed by exf.py. -/
import Derived.Test.YtpbkhdeehlikfaaDoorCM
namespace Go.Proofs.YtpbkhdeehlikfaaDoor
set_option linter.unusedVariables false
set_option linter.unusedSimpArgs false
set_option linter.unusedSectionVars false
open Go.RowKit
attribute [local irreducible] dfun dround
/-- quilt/quiltref01.Decode -/
def H15 : List (Nat × Hint) := []
def J15 : List (Nat × Hint) := []
abbrev S15 : List Sh := [.leaf]
abbrev L15 : List Lf := [.str]
def F15 (g : prodL L15) (K : Kn) : Prop :=
  sp13.pre (g.1, ()) ∧
  bif !decide ((rdT g.1).2.2 = 0) then (
    K (.tu [.ag [.bool false, .str (⟨#[]⟩ : ByteArray), .nil], .int .i64 ((rdT g.1).2.2)]) [])
  else (
    bif decide ((rdT g.1).2.1 < (g.1.size : Int)) then (
    K (.tu [.ag [.bool false, .str (⟨#[]⟩ : ByteArray), .nil], .int .i64 12]) [])
  else (
    K (.tu [.ag [.bool ((rdT g.1).1.isList), .str ((rdT g.1).1.atom), .sl false .sexp ((rdT g.1).1.list)], .int .i64 0]) []))
theorem F15_eq (g : prodL L15) (K X : Kn) : F15 g K = dfun D (gamX [] [(13, false, sp13)]) (isRaw []) H15 J15 23 [.cell 2 25, .tmp 3] (codeOf Tryd.f15) (argsT S15 L15 g) [] (settle0 K) X := by kernel_rfl
theorem F15_ok (g : prodL L15) (K X : Kn) (h : F15 g K) : FCalls Tryd.prog 15 (argsT S15 L15 g) [] K X :=
  FCalls.settle0 (dfun_sound (Γ := gamX [] [(13, false, sp13)]) (mu := isRaw []) (H := H15) (J := J15) D_ok (gamX_ok (rs := []) (l := [(13, false, sp13)]) (fun p hp => by cases hp) (by intro p hp; simp only [List.mem_cons, List.not_mem_nil, or_false] at hp; subst hp; exact sp13_ok)) gamX_det rfl Tryd.func15 (c := codeOf Tryd.f15) rfl Tryd.ntmps15 (rs := [.cell 2 25, .tmp 3]) Tryd.results15 (by unfold enters; rw [Tryd.func15]; kernel_rfl) (Nat.le_of_ble_eq_true (by kernel_rfl)) (X := X) (c0 := 0) (Eq.mp (F15_eq g K X) h))
/-- quilt/csexp.Number -/
def H20 : List (Nat × Hint) := []
def J20 : List (Nat × Hint) := []
abbrev S20 : List Sh := [.ag [.leaf, .leaf, .leaf]]
abbrev L20 : List Lf := [.bool, .str, .sl .sexp]
def F20 (g : prodL L20) (K : Kn) : Prop :=
  sp22.pre (g.1, g.2.1, g.2.2.1, ()) ∧
  bif !decide (ckG ⟨g.1, g.2.1, g.2.2.1⟩ = 0) then (
    K (.tu [.int .i64 0, .int .i64 (ckG ⟨g.1, g.2.1, g.2.2.1⟩)]) [])
  else (
    bif g.1 then (
    K (.tu [.int .i64 0, .int .i64 8]) [])
  else (
    sp33.pre (g.2.1, ()) ∧
    bif !(canR (bl g.2.1)) then (
      K (.tu [.int .i64 0, .int .i64 3]) [])
    else (
      atoiPre (g.2.1, ()) ∧
  Res.go (atoiR g.2.1) (fun a1 =>
  bif decide (a1 < (-1099511627776)) then (
    K (.tu [.int .i64 0, .int .i64 2]) [])
  else (
    bif decide (1099511627776 < a1) then (
    K (.tu [.int .i64 0, .int .i64 2]) [])
  else (
    K (.tu [.int .i64 a1, .int .i64 0]) []))) (fun e2 =>
  K (.tu [.int .i64 0, .int .i64 2]) []))))
theorem F20_eq (g : prodL L20) (K X : Kn) : F20 g K = dfun D (gamX [(34, rw34)] [(22, true, sp22), (33, true, sp33)]) (isRaw [(34, rw34)]) H20 J20 37 [.tmp 2, .tmp 3] (codeOf Tryd.f20) (argsT S20 L20 g) [] (settle0 K) X := by kernel_rfl
theorem F20_ok (g : prodL L20) (K X : Kn) (h : F20 g K) : FCalls Tryd.prog 20 (argsT S20 L20 g) [] K X :=
  FCalls.settle0 (dfun_sound (Γ := gamX [(34, rw34)] [(22, true, sp22), (33, true, sp33)]) (mu := isRaw [(34, rw34)]) (H := H20) (J := J20) D_ok (gamX_ok (rs := [(34, rw34)]) (l := [(22, true, sp22), (33, true, sp33)]) (by intro p hp; simp only [List.mem_cons, List.not_mem_nil, or_false] at hp; subst hp; exact rw34_ok) (by intro p hp; simp only [List.mem_cons, List.not_mem_nil, or_false] at hp; rcases hp with rfl | rfl <;> first | exact sp22_ok | exact sp33_ok)) gamX_det rfl Tryd.func20 (c := codeOf Tryd.f20) rfl Tryd.ntmps20 (rs := [.tmp 2, .tmp 3]) Tryd.results20 (by unfold enters; rw [Tryd.func20]; kernel_rfl) (Nat.le_of_ble_eq_true (by kernel_rfl)) (X := X) (c0 := 0) (Eq.mp (F20_eq g K X) h))
/-- quilt/quiltref01.Number -/
def H21 : List (Nat × Hint) := [(11, ⟨[], [(5, .leaf), (6, .leaf), (7, .leaf), (8, .leaf)], [], [.str, .int .i64, .int .i64, .int .i64]⟩)]
def J21 : List (Nat × Hint) := [(12, ⟨[], [(5, .leaf), (6, .leaf), (7, .leaf), (8, .leaf)], [], [.str, .int .i64, .int .i64, .int .i64]⟩)]
abbrev S21 : List Sh := [.ag [.leaf, .leaf, .leaf]]
abbrev L21 : List Lf := [.bool, .str, .sl .sexp]
def F21_J6 (K : Kn) (W2 : prodL [.str, .int .i64, .int .i64, .int .i64] → Prop) (s_5 : ByteArray) (n_5 : Int) (sign_5 : Int) (i_5 : Int) : Prop :=
  W2 (s_5, n_5, sign_5, IntKind.i64.wrap (i_5 + 1), ())
def F21_B2 (K : Kn) (W2 : prodL [.str, .int .i64, .int .i64, .int .i64] → Prop) (s_1 : ByteArray) (n_1 : Int) (sign_1 : Int) (i_1 : Int) : Prop :=
  bif decide (i_1 < (s_1.size : Int)) then (
    StrAt s_1 i_1 fun b3 =>
  bif decide (b3 = 45) then (
    F21_J6 K W2 s_1 n_1 (-1) i_1)
  else (
    StrAt s_1 i_1 fun b4 =>
  bif decide (1099511627776 < IntKind.i64.wrap ((IntKind.i64.wrap (n_1 * 10)) + (IntKind.i64.wrap (IntKind.u8.wrap (b4 - 48))))) then (
    K (.tu [.int .i64 0, .int .i64 2]) [])
  else (
    F21_J6 K W2 s_1 (IntKind.i64.wrap ((IntKind.i64.wrap (n_1 * 10)) + (IntKind.i64.wrap (IntKind.u8.wrap (b4 - 48))))) sign_1 i_1)))
  else (
    K (.tu [.int .i64 (IntKind.i64.wrap (sign_1 * n_1)), .int .i64 0]) [])
def F21_L2 (K : Kn) (g : prodL [.str, .int .i64, .int .i64, .int .i64]) : Prop :=
  LoopW (γ := prodL [.str, .int .i64, .int .i64, .int .i64]) (fun V y => F21_B2 K V y.1 y.2.1 y.2.2.1 y.2.2.2.1) g
def F21 (g : prodL L21) (K : Kn) : Prop :=
  sp25.pre (g.1, g.2.1, g.2.2.1, ()) ∧
  bif !decide (ckN ⟨g.1, g.2.1, g.2.2.1⟩ = 0) then (
    K (.tu [.int .i64 0, .int .i64 (ckN ⟨g.1, g.2.1, g.2.2.1⟩)]) [])
  else (
    bif g.1 then (
    K (.tu [.int .i64 0, .int .i64 8]) [])
  else (
    sp35.pre (g.2.1, ()) ∧
  bif !(decR (bl g.2.1)) then (
    K (.tu [.int .i64 0, .int .i64 3]) [])
  else (
    F21_L2 K (g.2.1, 0, 1, 0, ()))))
theorem F21_eq (g : prodL L21) (K X : Kn) : F21 g K = dfun D (gamX [] [(25, true, sp25), (35, true, sp35)]) (isRaw []) H21 J21 44 [.tmp 2, .tmp 3] (codeOf Tryd.f21) (argsT S21 L21 g) [] (settle0 K) X := by kernel_rfl
theorem F21_ok (g : prodL L21) (K X : Kn) (h : F21 g K) : FCalls Tryd.prog 21 (argsT S21 L21 g) [] K X :=
  FCalls.settle0 (dfun_sound (Γ := gamX [] [(25, true, sp25), (35, true, sp35)]) (mu := isRaw []) (H := H21) (J := J21) D_ok (gamX_ok (rs := []) (l := [(25, true, sp25), (35, true, sp35)]) (fun p hp => by cases hp) (by intro p hp; simp only [List.mem_cons, List.not_mem_nil, or_false] at hp; rcases hp with rfl | rfl <;> first | exact sp25_ok | exact sp35_ok)) gamX_det rfl Tryd.func21 (c := codeOf Tryd.f21) rfl Tryd.ntmps21 (rs := [.tmp 2, .tmp 3]) Tryd.results21 (by unfold enters; rw [Tryd.func21]; kernel_rfl) (Nat.le_of_ble_eq_true (by kernel_rfl)) (X := X) (c0 := 0) (Eq.mp (F21_eq g K X) h))
/-- quilt/quiltref01.Decimal -/
def H32 : List (Nat × Hint) := []
def J32 : List (Nat × Hint) := []
abbrev S32 : List Sh := [.leaf]
abbrev L32 : List Lf := [.int .i64]
def spz32 (Z : prodL L32 → Prop) : Sp := ⟨S32, L32, Z, fun g => .str (decB g.1), fun _ => none⟩
def F32 (Z : prodL L32 → Prop) (g : prodL L32) (K : Kn) : Prop :=
  bif decide (g.1 < 0) then (
    bif decide (g.1 < (-9223372036854775807)) then (
      K (.str (⟨#[45, 57, 50, 50, 51, 51, 55, 50, 48, 51, 54, 56, 53, 52, 55, 55, 53, 56, 48, 56]⟩ : ByteArray)) [])
    else (
      Z (IntKind.i64.wrap (0 - g.1), ()) ∧
    Room ((⟨#[45]⟩ : ByteArray).size + (decB (IntKind.i64.wrap (0 - g.1))).size) 1 (
    K (.str ((⟨#[45]⟩ : ByteArray) ++ (decB (IntKind.i64.wrap (0 - g.1))))) [])))
  else (
    bif decide (g.1 < 10) then (
    K (.str (bStr [(IntKind.u8.wrap (IntKind.i64.wrap (48 + g.1)))])) [])
  else (
    ¬ 10 = (0 : Int) ∧
  Z (IntKind.i64.wrap (Int.tdiv g.1 10), ()) ∧
  ¬ 10 = (0 : Int) ∧
  Room ((decB (IntKind.i64.wrap (Int.tdiv g.1 10))).size + (bStr [(IntKind.u8.wrap (IntKind.i64.wrap (48 + (Int.tmod g.1 10))))]).size) 1 (
  K (.str ((decB (IntKind.i64.wrap (Int.tdiv g.1 10))) ++ (bStr [(IntKind.u8.wrap (IntKind.i64.wrap (48 + (Int.tmod g.1 10))))]))) [])))
theorem F32_eq (Z : prodL L32 → Prop) (g : prodL L32) (K X : Kn) : F32 Z g K = dfun D (gamX [] [(32, true, spz32 Z)]) (isRaw []) H32 J32 28 [.tmp 2] (codeOf Tryd.f32) (argsT S32 L32 g) [] (settle0 K) X := by kernel_rfl
theorem F32_ok (Z : prodL L32 → Prop) (hZ : (spz32 Z).Ok Tryd.prog 32 true) (g : prodL L32) (K X : Kn) (h : F32 Z g K) : FCalls Tryd.prog 32 (argsT S32 L32 g) [] K X :=
  FCalls.settle0 (dfun_sound (Γ := gamX [] [(32, true, spz32 Z)]) (mu := isRaw []) (H := H32) (J := J32) D_ok (gamX_ok (rs := []) (l := [(32, true, spz32 Z)]) (fun p hp => by cases hp) (by intro p hp; simp only [List.mem_cons, List.not_mem_nil, or_false] at hp; subst hp; exact hZ)) gamX_det rfl Tryd.func32 (c := codeOf Tryd.f32) rfl Tryd.ntmps32 (rs := [.tmp 2]) Tryd.results32 (by unfold enters; rw [Tryd.func32]; kernel_rfl) (Nat.le_of_ble_eq_true (by kernel_rfl)) (X := X) (c0 := 0) (Eq.mp (F32_eq Z g K X) h))
end Go.Proofs.YtpbkhdeehlikfaaDoor
