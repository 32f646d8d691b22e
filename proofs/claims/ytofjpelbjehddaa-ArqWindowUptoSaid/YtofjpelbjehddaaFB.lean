/- What functions come to: printed by exf.py. -/
import Derived.Test.YtofjpelbjehddaaFS
namespace Go.Proofs.Ytofjpelbjehddaa
set_option linter.unusedVariables false
set_option linter.unusedSimpArgs false
set_option linter.unusedSectionVars false
open Go.RowKit
attribute [local irreducible] dfun dround
/-- quilt/quiltref49.GreatSender -/
def H9 : List (Nat × Hint) := [(3, ⟨[((1, []), none)], [(1, .pt 0 0), (3, .leaf), (4, .leaf)], [.cells [.leaf, .leaf, .leaf, .leaf]], [.int .i64, .int .i64, .int .i64, .int .i64, .sl .str, .sl .i64]⟩)]
def J9 : List (Nat × Hint) := []
abbrev S9 : List Sh := [.ag [.leaf, .leaf, .leaf, .leaf]]
abbrev L9 : List Lf := [.int .i64, .int .i64, .sl .str, .sl .i64]
def F9_B2 (K : Kn) (W2 : prodL [.int .i64, .int .i64, .int .i64, .int .i64, .sl .str, .sl .i64] → Prop) (n_1 : Int) (i_1 : Int) (s1_1 : Int) (s2_1 : Int) (s3_1 : List ByteArray) (s4_1 : List Int) : Prop :=
  bif decide (i_1 < (s3_1.length : Int)) then (
    At s3_1 i_1 fun u3 =>
  W2 (IntKind.i64.wrap (n_1 + (u3.size : Int)), IntKind.i64.wrap (i_1 + 1), s1_1, s2_1, s3_1, s4_1, ()))
  else (
    bif decide (100 < (s3_1.length : Int)) then (
    K (.bool true) [])
  else (
    bif decide (100 < (s4_1.length : Int)) then (
      K (.bool true) [])
    else (
      K (.bool (decide (1000 < n_1))) [])))
def F9_L2 (K : Kn) (g : prodL [.int .i64, .int .i64, .int .i64, .int .i64, .sl .str, .sl .i64]) : Prop :=
  LoopW (γ := prodL [.int .i64, .int .i64, .int .i64, .int .i64, .sl .str, .sl .i64]) (fun V y => F9_B2 K V y.1 y.2.1 y.2.2.1 y.2.2.2.1 y.2.2.2.2.1 y.2.2.2.2.2.1) g
def F9 (g : prodL L9) (K : Kn) : Prop :=
  F9_L2 K (0, 0, g.1, g.2.1, g.2.2.1, g.2.2.2.1, ())
theorem F9_eq (g : prodL L9) (K X : Kn) : F9 g K = dfun D (gamX [] []) (isRaw []) H9 J9 34 [.tmp 2] (codeOf Try.f9) (argsT S9 L9 g) [] (settle0 K) X := by kernel_rfl
theorem F9_ok (g : prodL L9) (K X : Kn) (h : F9 g K) : FCalls Try.prog 9 (argsT S9 L9 g) [] K X :=
  FCalls.settle0 (dfun_sound (Γ := gamX [] []) (mu := isRaw []) (H := H9) (J := J9) D_ok (gamX_ok (rs := []) (l := []) (fun p hp => by cases hp) (fun p hp => by cases hp)) gamX_det rfl Try.func9 (c := codeOf Try.f9) rfl Try.ntmps9 (rs := [.tmp 2]) Try.results9 (by unfold enters; rw [Try.func9]; kernel_rfl) (Nat.le_of_ble_eq_true (by kernel_rfl)) (X := X) (c0 := 0) (Eq.mp (F9_eq g K X) h))
/-- quilt/quiltref49.GreatReceiver -/
def H21 : List (Nat × Hint) := [(3, ⟨[((1, []), none)], [(1, .pt 0 0), (3, .leaf), (4, .leaf)], [.cells [.leaf, .leaf, .leaf]], [.int .i64, .int .i64, .int .i64, .sl .boo, .sl .str]⟩)]
def J21 : List (Nat × Hint) := []
abbrev S21 : List Sh := [.ag [.leaf, .leaf, .leaf]]
abbrev L21 : List Lf := [.int .i64, .sl .boo, .sl .str]
def F21_B2 (K : Kn) (W2 : prodL [.int .i64, .int .i64, .int .i64, .sl .boo, .sl .str] → Prop) (n_1 : Int) (i_1 : Int) (r1_1 : Int) (r2_1 : List Bool) (r3_1 : List ByteArray) : Prop :=
  bif decide (i_1 < (r3_1.length : Int)) then (
    At r3_1 i_1 fun u3 =>
  W2 (IntKind.i64.wrap (n_1 + (u3.size : Int)), IntKind.i64.wrap (i_1 + 1), r1_1, r2_1, r3_1, ()))
  else (
    bif decide (100 < (r2_1.length : Int)) then (
    K (.bool true) [])
  else (
    bif decide (100 < (r3_1.length : Int)) then (
      K (.bool true) [])
    else (
      K (.bool (decide (1000 < n_1))) [])))
def F21_L2 (K : Kn) (g : prodL [.int .i64, .int .i64, .int .i64, .sl .boo, .sl .str]) : Prop :=
  LoopW (γ := prodL [.int .i64, .int .i64, .int .i64, .sl .boo, .sl .str]) (fun V y => F21_B2 K V y.1 y.2.1 y.2.2.1 y.2.2.2.1 y.2.2.2.2.1) g
def F21 (g : prodL L21) (K : Kn) : Prop :=
  F21_L2 K (0, 0, g.1, g.2.1, g.2.2.1, ())
theorem F21_eq (g : prodL L21) (K X : Kn) : F21 g K = dfun D (gamX [] []) (isRaw []) H21 J21 34 [.tmp 2] (codeOf Try.f21) (argsT S21 L21 g) [] (settle0 K) X := by kernel_rfl
theorem F21_ok (g : prodL L21) (K X : Kn) (h : F21 g K) : FCalls Try.prog 21 (argsT S21 L21 g) [] K X :=
  FCalls.settle0 (dfun_sound (Γ := gamX [] []) (mu := isRaw []) (H := H21) (J := J21) D_ok (gamX_ok (rs := []) (l := []) (fun p hp => by cases hp) (fun p hp => by cases hp)) gamX_det rfl Try.func21 (c := codeOf Try.f21) rfl Try.ntmps21 (rs := [.tmp 2]) Try.results21 (by unfold enters; rw [Try.func21]; kernel_rfl) (Nat.le_of_ble_eq_true (by kernel_rfl)) (X := X) (c0 := 0) (Eq.mp (F21_eq g K X) h))
/-- quilt/quiltref49.SameSender -/
def H17 : List (Nat × Hint) := [(4, ⟨[((2, []), none), ((3, []), none)], [(2, .pt 0 0), (3, .pt 1 0), (5, .leaf)], [.cells [.leaf, .leaf, .leaf, .leaf], .cells [.leaf, .leaf, .leaf, .leaf]], [.int .i64, .int .i64, .int .i64, .sl .str, .sl .i64, .int .i64, .int .i64, .sl .str, .sl .i64]⟩), (9, ⟨[((2, []), none), ((3, []), none)], [(2, .pt 0 0), (3, .pt 1 0), (6, .leaf)], [.cells [.leaf, .leaf, .leaf, .leaf], .cells [.leaf, .leaf, .leaf, .leaf]], [.int .i64, .int .i64, .int .i64, .sl .str, .sl .i64, .int .i64, .int .i64, .sl .str, .sl .i64]⟩)]
def J17 : List (Nat × Hint) := [(2, ⟨[((2, []), none), ((3, []), none)], [(2, .pt 0 0), (3, .pt 1 0), (36, .leaf)], [.cells [.leaf, .leaf, .leaf, .leaf], .cells [.leaf, .leaf, .leaf, .leaf]], [.bool, .int .i64, .int .i64, .sl .str, .sl .i64, .int .i64, .int .i64, .sl .str, .sl .i64]⟩)]
abbrev S17 : List Sh := [.ag [.leaf, .leaf, .leaf, .leaf], .ag [.leaf, .leaf, .leaf, .leaf]]
abbrev L17 : List Lf := [.int .i64, .int .i64, .sl .str, .sl .i64, .int .i64, .int .i64, .sl .str, .sl .i64]
def F17_B8 (K : Kn) (W8 : prodL [.int .i64, .int .i64, .int .i64, .sl .str, .sl .i64, .int .i64, .int .i64, .sl .str, .sl .i64] → Prop) (i_7 : Int) (a1_7 : Int) (a2_7 : Int) (a3_7 : List ByteArray) (a4_7 : List Int) (b1_7 : Int) (b2_7 : Int) (b3_7 : List ByteArray) (b4_7 : List Int) : Prop :=
  bif decide (i_7 < (a4_7.length : Int)) then (
    At a4_7 i_7 fun u9 =>
  At b4_7 i_7 fun u10 =>
  bif !decide (u9 = u10) then (
    K (.bool false) [])
  else (
    W8 (IntKind.i64.wrap (i_7 + 1), a1_7, a2_7, a3_7, a4_7, b1_7, b2_7, b3_7, b4_7, ())))
  else (
    K (.bool true) [])
def F17_L8 (K : Kn) (g : prodL [.int .i64, .int .i64, .int .i64, .sl .str, .sl .i64, .int .i64, .int .i64, .sl .str, .sl .i64]) : Prop :=
  LoopW (γ := prodL [.int .i64, .int .i64, .int .i64, .sl .str, .sl .i64, .int .i64, .int .i64, .sl .str, .sl .i64]) (fun V y => F17_B8 K V y.1 y.2.1 y.2.2.1 y.2.2.2.1 y.2.2.2.2.1 y.2.2.2.2.2.1 y.2.2.2.2.2.2.1 y.2.2.2.2.2.2.2.1 y.2.2.2.2.2.2.2.2.1) g
def F17_B4 (K : Kn) (W4 : prodL [.int .i64, .int .i64, .int .i64, .sl .str, .sl .i64, .int .i64, .int .i64, .sl .str, .sl .i64] → Prop) (i_3 : Int) (a1_3 : Int) (a2_3 : Int) (a3_3 : List ByteArray) (a4_3 : List Int) (b1_3 : Int) (b2_3 : Int) (b3_3 : List ByteArray) (b4_3 : List Int) : Prop :=
  bif decide (i_3 < (a3_3.length : Int)) then (
    At a3_3 i_3 fun u5 =>
  At b3_3 i_3 fun u6 =>
  bif !decide (u5 = u6) then (
    K (.bool false) [])
  else (
    W4 (IntKind.i64.wrap (i_3 + 1), a1_3, a2_3, a3_3, a4_3, b1_3, b2_3, b3_3, b4_3, ())))
  else (
    F17_L8 K (0, a1_3, a2_3, a3_3, a4_3, b1_3, b2_3, b3_3, b4_3, ()))
def F17_L4 (K : Kn) (g : prodL [.int .i64, .int .i64, .int .i64, .sl .str, .sl .i64, .int .i64, .int .i64, .sl .str, .sl .i64]) : Prop :=
  LoopW (γ := prodL [.int .i64, .int .i64, .int .i64, .sl .str, .sl .i64, .int .i64, .int .i64, .sl .str, .sl .i64]) (fun V y => F17_B4 K V y.1 y.2.1 y.2.2.1 y.2.2.2.1 y.2.2.2.2.1 y.2.2.2.2.2.1 y.2.2.2.2.2.2.1 y.2.2.2.2.2.2.2.1 y.2.2.2.2.2.2.2.2.1) g
def F17_J2 (K : Kn) (t_1 : Bool) (a1_1 : Int) (a2_1 : Int) (a3_1 : List ByteArray) (a4_1 : List Int) (b1_1 : Int) (b2_1 : Int) (b3_1 : List ByteArray) (b4_1 : List Int) : Prop :=
  bif t_1 then (
    K (.bool false) [])
  else (
    F17_L4 K (0, a1_1, a2_1, a3_1, a4_1, b1_1, b2_1, b3_1, b4_1, ()))
def F17 (g : prodL L17) (K : Kn) : Prop :=
  bif !decide (g.1 = g.2.2.2.2.1) then (
    F17_J2 K true g.1 g.2.1 g.2.2.1 g.2.2.2.1 g.2.2.2.2.1 g.2.2.2.2.2.1 g.2.2.2.2.2.2.1 g.2.2.2.2.2.2.2.1)
  else (
    bif !decide (g.2.1 = g.2.2.2.2.2.1) then (
      F17_J2 K true g.1 g.2.1 g.2.2.1 g.2.2.2.1 g.2.2.2.2.1 g.2.2.2.2.2.1 g.2.2.2.2.2.2.1 g.2.2.2.2.2.2.2.1)
    else (
      bif !decide ((g.2.2.1.length : Int) = (g.2.2.2.2.2.2.1.length : Int)) then (
        F17_J2 K true g.1 g.2.1 g.2.2.1 g.2.2.2.1 g.2.2.2.2.1 g.2.2.2.2.2.1 g.2.2.2.2.2.2.1 g.2.2.2.2.2.2.2.1)
      else (
        F17_J2 K (!decide ((g.2.2.2.1.length : Int) = (g.2.2.2.2.2.2.2.1.length : Int))) g.1 g.2.1 g.2.2.1 g.2.2.2.1 g.2.2.2.2.1 g.2.2.2.2.2.1 g.2.2.2.2.2.2.1 g.2.2.2.2.2.2.2.1)))
theorem F17_eq (g : prodL L17) (K X : Kn) : F17 g K = dfun D (gamX [] []) (isRaw []) H17 J17 73 [.tmp 4] (codeOf Try.f17) (argsT S17 L17 g) [] (settle0 K) X := by kernel_rfl
theorem F17_ok (g : prodL L17) (K X : Kn) (h : F17 g K) : FCalls Try.prog 17 (argsT S17 L17 g) [] K X :=
  FCalls.settle0 (dfun_sound (Γ := gamX [] []) (mu := isRaw []) (H := H17) (J := J17) D_ok (gamX_ok (rs := []) (l := []) (fun p hp => by cases hp) (fun p hp => by cases hp)) gamX_det rfl Try.func17 (c := codeOf Try.f17) rfl Try.ntmps17 (rs := [.tmp 4]) Try.results17 (by unfold enters; rw [Try.func17]; kernel_rfl) (Nat.le_of_ble_eq_true (by kernel_rfl)) (X := X) (c0 := 0) (Eq.mp (F17_eq g K X) h))
/-- quilt/quiltref49.SameReceiver -/
def H26 : List (Nat × Hint) := [(4, ⟨[((2, []), none), ((3, []), none)], [(2, .pt 0 0), (3, .pt 1 0), (5, .leaf)], [.cells [.leaf, .leaf, .leaf], .cells [.leaf, .leaf, .leaf]], [.int .i64, .int .i64, .sl .boo, .sl .str, .int .i64, .sl .boo, .sl .str]⟩), (9, ⟨[((2, []), none), ((3, []), none)], [(2, .pt 0 0), (3, .pt 1 0), (6, .leaf)], [.cells [.leaf, .leaf, .leaf], .cells [.leaf, .leaf, .leaf]], [.int .i64, .int .i64, .sl .boo, .sl .str, .int .i64, .sl .boo, .sl .str]⟩)]
def J26 : List (Nat × Hint) := [(2, ⟨[((2, []), none), ((3, []), none)], [(2, .pt 0 0), (3, .pt 1 0), (29, .leaf)], [.cells [.leaf, .leaf, .leaf], .cells [.leaf, .leaf, .leaf]], [.bool, .int .i64, .sl .boo, .sl .str, .int .i64, .sl .boo, .sl .str]⟩)]
abbrev S26 : List Sh := [.ag [.leaf, .leaf, .leaf], .ag [.leaf, .leaf, .leaf]]
abbrev L26 : List Lf := [.int .i64, .sl .boo, .sl .str, .int .i64, .sl .boo, .sl .str]
def F26_B8 (K : Kn) (W8 : prodL [.int .i64, .int .i64, .sl .boo, .sl .str, .int .i64, .sl .boo, .sl .str] → Prop) (i_7 : Int) (a1_7 : Int) (a2_7 : List Bool) (a3_7 : List ByteArray) (b1_7 : Int) (b2_7 : List Bool) (b3_7 : List ByteArray) : Prop :=
  bif decide (i_7 < (a3_7.length : Int)) then (
    At a3_7 i_7 fun u9 =>
  At b3_7 i_7 fun u10 =>
  bif !decide (u9 = u10) then (
    K (.bool false) [])
  else (
    W8 (IntKind.i64.wrap (i_7 + 1), a1_7, a2_7, a3_7, b1_7, b2_7, b3_7, ())))
  else (
    K (.bool true) [])
def F26_L8 (K : Kn) (g : prodL [.int .i64, .int .i64, .sl .boo, .sl .str, .int .i64, .sl .boo, .sl .str]) : Prop :=
  LoopW (γ := prodL [.int .i64, .int .i64, .sl .boo, .sl .str, .int .i64, .sl .boo, .sl .str]) (fun V y => F26_B8 K V y.1 y.2.1 y.2.2.1 y.2.2.2.1 y.2.2.2.2.1 y.2.2.2.2.2.1 y.2.2.2.2.2.2.1) g
def F26_B4 (K : Kn) (W4 : prodL [.int .i64, .int .i64, .sl .boo, .sl .str, .int .i64, .sl .boo, .sl .str] → Prop) (i_3 : Int) (a1_3 : Int) (a2_3 : List Bool) (a3_3 : List ByteArray) (b1_3 : Int) (b2_3 : List Bool) (b3_3 : List ByteArray) : Prop :=
  bif decide (i_3 < (a2_3.length : Int)) then (
    At a2_3 i_3 fun u5 =>
  At b2_3 i_3 fun u6 =>
  bif !decide (u5 = u6) then (
    K (.bool false) [])
  else (
    W4 (IntKind.i64.wrap (i_3 + 1), a1_3, a2_3, a3_3, b1_3, b2_3, b3_3, ())))
  else (
    F26_L8 K (0, a1_3, a2_3, a3_3, b1_3, b2_3, b3_3, ()))
def F26_L4 (K : Kn) (g : prodL [.int .i64, .int .i64, .sl .boo, .sl .str, .int .i64, .sl .boo, .sl .str]) : Prop :=
  LoopW (γ := prodL [.int .i64, .int .i64, .sl .boo, .sl .str, .int .i64, .sl .boo, .sl .str]) (fun V y => F26_B4 K V y.1 y.2.1 y.2.2.1 y.2.2.2.1 y.2.2.2.2.1 y.2.2.2.2.2.1 y.2.2.2.2.2.2.1) g
def F26_J2 (K : Kn) (t_1 : Bool) (a1_1 : Int) (a2_1 : List Bool) (a3_1 : List ByteArray) (b1_1 : Int) (b2_1 : List Bool) (b3_1 : List ByteArray) : Prop :=
  bif t_1 then (
    K (.bool false) [])
  else (
    F26_L4 K (0, a1_1, a2_1, a3_1, b1_1, b2_1, b3_1, ()))
def F26 (g : prodL L26) (K : Kn) : Prop :=
  bif !decide (g.1 = g.2.2.2.1) then (
    F26_J2 K true g.1 g.2.1 g.2.2.1 g.2.2.2.1 g.2.2.2.2.1 g.2.2.2.2.2.1)
  else (
    bif !decide ((g.2.1.length : Int) = (g.2.2.2.2.1.length : Int)) then (
      F26_J2 K true g.1 g.2.1 g.2.2.1 g.2.2.2.1 g.2.2.2.2.1 g.2.2.2.2.2.1)
    else (
      F26_J2 K (!decide ((g.2.2.1.length : Int) = (g.2.2.2.2.2.1.length : Int))) g.1 g.2.1 g.2.2.1 g.2.2.2.1 g.2.2.2.2.1 g.2.2.2.2.2.1))
theorem F26_eq (g : prodL L26) (K X : Kn) : F26 g K = dfun D (gamX [] []) (isRaw []) H26 J26 66 [.tmp 4] (codeOf Try.f26) (argsT S26 L26 g) [] (settle0 K) X := by kernel_rfl
theorem F26_ok (g : prodL L26) (K X : Kn) (h : F26 g K) : FCalls Try.prog 26 (argsT S26 L26 g) [] K X :=
  FCalls.settle0 (dfun_sound (Γ := gamX [] []) (mu := isRaw []) (H := H26) (J := J26) D_ok (gamX_ok (rs := []) (l := []) (fun p hp => by cases hp) (fun p hp => by cases hp)) gamX_det rfl Try.func26 (c := codeOf Try.f26) rfl Try.ntmps26 (rs := [.tmp 4]) Try.results26 (by unfold enters; rw [Try.func26]; kernel_rfl) (Nat.le_of_ble_eq_true (by kernel_rfl)) (X := X) (c0 := 0) (Eq.mp (F26_eq g K X) h))
/-- quilt/quiltref49.SameFrames -/
def H18 : List (Nat × Hint) := [(4, ⟨[], [(0, .leaf), (1, .leaf), (5, .leaf)], [], [.sl .frm, .sl .frm, .int .i64]⟩)]
def J18 : List (Nat × Hint) := []
abbrev S18 : List Sh := [.leaf, .leaf]
abbrev L18 : List Lf := [.sl .frm, .sl .frm]
def F18_B2 (K : Kn) (W2 : prodL [.sl .frm, .sl .frm, .int .i64] → Prop) (a_1 : List Frm) (b_1 : List Frm) (i_1 : Int) : Prop :=
  bif decide (i_1 < (a_1.length : Int)) then (
    At a_1 i_1 fun u3 =>
  At b_1 i_1 fun u4 =>
  bif !(decide (u3.ack = u4.ack) && (decide (u3.number = u4.number) && (decide (u3.data = u4.data) && (true)))) then (
    K (.bool false) [])
  else (
    W2 (a_1, b_1, IntKind.i64.wrap (i_1 + 1), ())))
  else (
    K (.bool true) [])
def F18_L2 (K : Kn) (g : prodL [.sl .frm, .sl .frm, .int .i64]) : Prop :=
  LoopW (γ := prodL [.sl .frm, .sl .frm, .int .i64]) (fun V y => F18_B2 K V y.1 y.2.1 y.2.2.1) g
def F18 (g : prodL L18) (K : Kn) : Prop :=
  bif !decide ((g.1.length : Int) = (g.2.1.length : Int)) then (
    K (.bool false) [])
  else (
    F18_L2 K (g.1, g.2.1, 0, ()))
theorem F18_eq (g : prodL L18) (K X : Kn) : F18 g K = dfun D (gamX [] []) (isRaw []) H18 J18 26 [.tmp 4] (codeOf Try.f18) (argsT S18 L18 g) [] (settle0 K) X := by kernel_rfl
theorem F18_ok (g : prodL L18) (K X : Kn) (h : F18 g K) : FCalls Try.prog 18 (argsT S18 L18 g) [] K X :=
  FCalls.settle0 (dfun_sound (Γ := gamX [] []) (mu := isRaw []) (H := H18) (J := J18) D_ok (gamX_ok (rs := []) (l := []) (fun p hp => by cases hp) (fun p hp => by cases hp)) gamX_det rfl Try.func18 (c := codeOf Try.f18) rfl Try.ntmps18 (rs := [.tmp 4]) Try.results18 (by unfold enters; rw [Try.func18]; kernel_rfl) (Nat.le_of_ble_eq_true (by kernel_rfl)) (X := X) (c0 := 0) (Eq.mp (F18_eq g K X) h))
/-- quilt/arq.element -/
def H35 : List (Nat × Hint) := []
def J35 : List (Nat × Hint) := [(4, ⟨[], [(39, .leaf)], [], [.bool]⟩)]
abbrev S35 : List Sh := [.ag [.leaf, .leaf, .leaf, .leaf], .leaf]
abbrev L35 : List Lf := [.int .i64, .int .i64, .sl .str, .sl .i64, .int .i64]
def F35_J6 (K : Kn) (t_5 : Bool) : Prop :=
  bif t_5 then (
    K (.int .i64 2) [])
  else (
    K (.int .i64 0) [])
def F35 (g : prodL L35) (K : Kn) : Prop :=
  At g.2.2.1 g.2.2.2.2.1 fun u1 =>
  bif decide (65472 < (u1.size : Int)) then (
    K (.int .i64 4) [])
  else (
    At g.2.2.2.1 g.2.2.2.2.1 fun u2 =>
  bif decide (u2 < (-1)) then (
    F35_J6 K true)
  else (
    At g.2.2.2.1 g.2.2.2.2.1 fun u3 =>
    bif decide (1099511627776 < u3) then (
      F35_J6 K true)
    else (
      bif decide (g.2.1 ≤ g.2.2.2.2.1) then (
        At g.2.2.2.1 g.2.2.2.2.1 fun u4 =>
        F35_J6 K (!decide (u4 = (-1))))
      else (
        F35_J6 K false))))
theorem F35_eq (g : prodL L35) (K X : Kn) : F35 g K = dfun D (gamX [] []) (isRaw []) H35 J35 40 [.tmp 4] (codeOf Try.f35) (argsT S35 L35 g) [] (settle0 K) X := by kernel_rfl
theorem F35_ok (g : prodL L35) (K X : Kn) (h : F35 g K) : FCalls Try.prog 35 (argsT S35 L35 g) [] K X :=
  FCalls.settle0 (dfun_sound (Γ := gamX [] []) (mu := isRaw []) (H := H35) (J := J35) D_ok (gamX_ok (rs := []) (l := []) (fun p hp => by cases hp) (fun p hp => by cases hp)) gamX_det rfl Try.func35 (c := codeOf Try.f35) rfl Try.ntmps35 (rs := [.tmp 4]) Try.results35 (by unfold enters; rw [Try.func35]; kernel_rfl) (Nat.le_of_ble_eq_true (by kernel_rfl)) (X := X) (c0 := 0) (Eq.mp (F35_eq g K X) h))
/-- quilt/arq.checkFrame -/
def H36 : List (Nat × Hint) := []
def J36 : List (Nat × Hint) := [(6, ⟨[], [(13, .leaf)], [], [.bool]⟩)]
abbrev S36 : List Sh := [.ag [.leaf, .leaf, .leaf]]
abbrev L36 : List Lf := [.bool, .int .i64, .str]
def F36_J2 (K : Kn) (t_1 : Bool) : Prop :=
  bif t_1 then (
        K (.int .i64 1) [])
      else (
        K (.int .i64 0) [])
def F36 (g : prodL L36) (K : Kn) : Prop :=
  sp32.pre (g.2.1, ()) ∧
  bif !(okN g.2.1) then (
    K (.int .i64 2) [])
  else (
    bif decide (65472 < (g.2.2.1.size : Int)) then (
      K (.int .i64 4) [])
    else (
      bif g.1 then (
        F36_J2 K (!decide (g.2.2.1 = (⟨#[]⟩ : ByteArray))))
      else (
        F36_J2 K false)))
theorem F36_eq (g : prodL L36) (K X : Kn) : F36 g K = dfun D (gamX [] [(32, true, sp32)]) (isRaw []) H36 J36 21 [.tmp 2] (codeOf Try.f36) (argsT S36 L36 g) [] (settle0 K) X := by kernel_rfl
theorem F36_ok (g : prodL L36) (K X : Kn) (h : F36 g K) : FCalls Try.prog 36 (argsT S36 L36 g) [] K X :=
  FCalls.settle0 (dfun_sound (Γ := gamX [] [(32, true, sp32)]) (mu := isRaw []) (H := H36) (J := J36) D_ok (gamX_ok (rs := []) (l := [(32, true, sp32)]) (fun p hp => by cases hp) (by intro p hp; simp only [List.mem_cons, List.not_mem_nil, or_false] at hp; subst hp; exact sp32_ok)) gamX_det rfl Try.func36 (c := codeOf Try.f36) rfl Try.ntmps36 (rs := [.tmp 2]) Try.results36 (by unfold enters; rw [Try.func36]; kernel_rfl) (Nat.le_of_ble_eq_true (by kernel_rfl)) (X := X) (c0 := 0) (Eq.mp (F36_eq g K X) h))
/-- quilt/quiltref49.frame -/
def H38 : List (Nat × Hint) := []
def J38 : List (Nat × Hint) := [(6, ⟨[], [(17, .leaf)], [], [.bool]⟩)]
abbrev S38 : List Sh := [.ag [.leaf, .leaf, .leaf]]
abbrev L38 : List Lf := [.bool, .int .i64, .str]
def F38_J2 (K : Kn) (t_1 : Bool) : Prop :=
  bif t_1 then (
    K (.int .i64 1) [])
  else (
    K (.int .i64 0) [])
def F38 (g : prodL L38) (K : Kn) : Prop :=
  sp34.pre (g.2.1, ()) ∧
  bif !(okN g.2.1) then (
    K (.int .i64 2) [])
  else (
    sp31.pre (g.2.2.1, ()) ∧
  bif !(fitsB g.2.2.1) then (
    K (.int .i64 4) [])
  else (
    bif g.1 then (
    F38_J2 K (!decide (g.2.2.1 = (⟨#[]⟩ : ByteArray))))
  else (
    F38_J2 K false)))
theorem F38_eq (g : prodL L38) (K X : Kn) : F38 g K = dfun D (gamX [] [(31, true, sp31), (34, true, sp34)]) (isRaw []) H38 J38 18 [.tmp 2] (codeOf Try.f38) (argsT S38 L38 g) [] (settle0 K) X := by kernel_rfl
theorem F38_ok (g : prodL L38) (K X : Kn) (h : F38 g K) : FCalls Try.prog 38 (argsT S38 L38 g) [] K X :=
  FCalls.settle0 (dfun_sound (Γ := gamX [] [(31, true, sp31), (34, true, sp34)]) (mu := isRaw []) (H := H38) (J := J38) D_ok (gamX_ok (rs := []) (l := [(31, true, sp31), (34, true, sp34)]) (fun p hp => by cases hp) (by intro p hp; simp only [List.mem_cons, List.not_mem_nil, or_false] at hp; rcases hp with rfl | rfl <;> first | exact sp31_ok | exact sp34_ok)) gamX_det rfl Try.func38 (c := codeOf Try.f38) rfl Try.ntmps38 (rs := [.tmp 2]) Try.results38 (by unfold enters; rw [Try.func38]; kernel_rfl) (Nat.le_of_ble_eq_true (by kernel_rfl)) (X := X) (c0 := 0) (Eq.mp (F38_eq g K X) h))
/-- slices.Contains[[]int,int] -/
def H37 : List (Nat × Hint) := []
def J37 : List (Nat × Hint) := []
abbrev S37 : List Sh := [.leaf, .leaf]
abbrev L37 : List Lf := [.sl .i64, .int .i64]
def F37 (g : prodL L37) (K : Kn) : Prop :=
  sp45.pre (g.1, g.2.1, ()) ∧
  K (.bool (decide (0 ≤ ixOf g.1 g.2.1))) []
theorem F37_eq (g : prodL L37) (K X : Kn) : F37 g K = dfun D (gamX [] [(45, true, sp45)]) (isRaw []) H37 J37 9 [.tmp 4] (codeOf Try.f37) (argsT S37 L37 g) [] (settle0 K) X := by kernel_rfl
theorem F37_ok (g : prodL L37) (K X : Kn) (h : F37 g K) : FCalls Try.prog 37 (argsT S37 L37 g) [] K X :=
  FCalls.settle0 (dfun_sound (Γ := gamX [] [(45, true, sp45)]) (mu := isRaw []) (H := H37) (J := J37) D_ok (gamX_ok (rs := []) (l := [(45, true, sp45)]) (fun p hp => by cases hp) (by intro p hp; simp only [List.mem_cons, List.not_mem_nil, or_false] at hp; subst hp; exact sp45_ok)) gamX_det rfl Try.func37 (c := codeOf Try.f37) rfl Try.ntmps37 (rs := [.tmp 4]) Try.results37 (by unfold enters; rw [Try.func37]; kernel_rfl) (Nat.le_of_ble_eq_true (by kernel_rfl)) (X := X) (c0 := 0) (Eq.mp (F37_eq g K X) h))
end Go.Proofs.Ytofjpelbjehddaa
