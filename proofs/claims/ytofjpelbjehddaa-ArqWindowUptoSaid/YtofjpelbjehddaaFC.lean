/- What functions come to: printed by exf.py. -/
import Derived.Test.YtofjpelbjehddaaFT
namespace Go.Proofs.Ytofjpelbjehddaa
set_option linter.unusedVariables false
set_option linter.unusedSimpArgs false
set_option linter.unusedSectionVars false
open Go.RowKit
attribute [local irreducible] dfun dround
/-- slices.Clone[[]string,string] -/
def H29 : List (Nat × Hint) := []
def J29 : List (Nat × Hint) := [(3, ⟨[], [(0, .leaf)], [], [.sl .str]⟩)]
abbrev S29 : List Sh := [.leaf]
abbrev L29 : List Lf := [.sl .str]
def F29_J2 (K : Kn) (s_1 : List ByteArray) : Prop :=
  Room s_1.length 16 (
  K (.oa .str 0 0) [some (.arr 0 .str s_1)])
def F29 (g : prodL L29) (K : Kn) : Prop :=
  bif decide (g.1.length = 0) then (
    (K (.oa .str 0 0) [some (.arr 0 .str [])]) ∧
  F29_J2 K g.1)
  else (
    F29_J2 K g.1)
theorem F29_eq (g : prodL L29) (K X : Kn) : F29 g K = dfun D (gamX [] []) (isRaw []) H29 J29 8 [.tmp 2] (codeOf Try.f29) (argsT S29 L29 g) [] (settleR (virtR .str K)) X := by kernel_rfl
theorem F29_ok (g : prodL L29) (K X : Kn) (h : F29 g K) : FCalls Try.prog 29 (argsT S29 L29 g) [] K X :=
  FCalls.virtR (FCalls.settleR (dfun_sound (Γ := gamX [] []) (mu := isRaw []) (H := H29) (J := J29) D_ok (gamX_ok (rs := []) (l := []) (fun p hp => by cases hp) (fun p hp => by cases hp)) gamX_det rfl Try.func29 (c := codeOf Try.f29) rfl Try.ntmps29 (rs := [.tmp 2]) Try.results29 (by unfold enters; rw [Try.func29]; kernel_rfl) (Nat.le_of_ble_eq_true (by kernel_rfl)) (X := X) (c0 := 0) (Eq.mp (F29_eq g K X) h)))
/-- slices.Clone[[]int,int] -/
def H30 : List (Nat × Hint) := []
def J30 : List (Nat × Hint) := [(3, ⟨[], [(0, .leaf)], [], [.sl .i64]⟩)]
abbrev S30 : List Sh := [.leaf]
abbrev L30 : List Lf := [.sl .i64]
def F30_J2 (K : Kn) (s_1 : List Int) : Prop :=
  Room s_1.length 8 (
  K (.oa .i64 0 0) [some (.arr 0 .i64 s_1)])
def F30 (g : prodL L30) (K : Kn) : Prop :=
  bif decide (g.1.length = 0) then (
    (K (.oa .i64 0 0) [some (.arr 0 .i64 [])]) ∧
  F30_J2 K g.1)
  else (
    F30_J2 K g.1)
theorem F30_eq (g : prodL L30) (K X : Kn) : F30 g K = dfun D (gamX [] []) (isRaw []) H30 J30 8 [.tmp 2] (codeOf Try.f30) (argsT S30 L30 g) [] (settleR (virtR .i64 K)) X := by kernel_rfl
theorem F30_ok (g : prodL L30) (K X : Kn) (h : F30 g K) : FCalls Try.prog 30 (argsT S30 L30 g) [] K X :=
  FCalls.virtR (FCalls.settleR (dfun_sound (Γ := gamX [] []) (mu := isRaw []) (H := H30) (J := J30) D_ok (gamX_ok (rs := []) (l := []) (fun p hp => by cases hp) (fun p hp => by cases hp)) gamX_det rfl Try.func30 (c := codeOf Try.f30) rfl Try.ntmps30 (rs := [.tmp 2]) Try.results30 (by unfold enters; rw [Try.func30]; kernel_rfl) (Nat.le_of_ble_eq_true (by kernel_rfl)) (X := X) (c0 := 0) (Eq.mp (F30_eq g K X) h)))
/-- slices.Clone[[]bool,bool] -/
def H42 : List (Nat × Hint) := []
def J42 : List (Nat × Hint) := [(3, ⟨[], [(0, .leaf)], [], [.sl .boo]⟩)]
abbrev S42 : List Sh := [.leaf]
abbrev L42 : List Lf := [.sl .boo]
def F42_J2 (K : Kn) (s_1 : List Bool) : Prop :=
  Room s_1.length 1 (
  K (.oa .boo 0 0) [some (.arr 0 .boo s_1)])
def F42 (g : prodL L42) (K : Kn) : Prop :=
  bif decide (g.1.length = 0) then (
    (K (.oa .boo 0 0) [some (.arr 0 .boo [])]) ∧
  F42_J2 K g.1)
  else (
    F42_J2 K g.1)
theorem F42_eq (g : prodL L42) (K X : Kn) : F42 g K = dfun D (gamX [] []) (isRaw []) H42 J42 8 [.tmp 2] (codeOf Try.f42) (argsT S42 L42 g) [] (settleR (virtR .boo K)) X := by kernel_rfl
theorem F42_ok (g : prodL L42) (K X : Kn) (h : F42 g K) : FCalls Try.prog 42 (argsT S42 L42 g) [] K X :=
  FCalls.virtR (FCalls.settleR (dfun_sound (Γ := gamX [] []) (mu := isRaw []) (H := H42) (J := J42) D_ok (gamX_ok (rs := []) (l := []) (fun p hp => by cases hp) (fun p hp => by cases hp)) gamX_det rfl Try.func42 (c := codeOf Try.f42) rfl Try.ntmps42 (rs := [.tmp 2]) Try.results42 (by unfold enters; rw [Try.func42]; kernel_rfl) (Nat.le_of_ble_eq_true (by kernel_rfl)) (X := X) (c0 := 0) (Eq.mp (F42_eq g K X) h)))
/-- quilt/arq.Check -/
def H19 : List (Nat × Hint) := [(8, ⟨[((1, []), none)], [(1, .pt 0 0), (35, .leaf), (36, .leaf)], [.cells [.leaf, .leaf, .leaf, .leaf]], [.int .i64, .int .i64, .int .i64, .int .i64, .sl .str, .sl .i64]⟩)]
def J19 : List (Nat × Hint) := [(2, ⟨[((1, []), none)], [(1, .pt 0 0), (5, .leaf)], [.cells [.leaf, .leaf, .leaf, .leaf]], [.bool, .int .i64, .int .i64, .sl .str, .sl .i64]⟩)]
abbrev S19 : List Sh := [.ag [.leaf, .leaf, .leaf, .leaf]]
abbrev L19 : List Lf := [.int .i64, .int .i64, .sl .str, .sl .i64]
def F19_B4 (K : Kn) (W4 : prodL [.int .i64, .int .i64, .int .i64, .int .i64, .sl .str, .sl .i64] → Prop) (t_3 : Int) (t2_3 : Int) (s1_3 : Int) (s2_3 : Int) (s3_3 : List ByteArray) (s4_3 : List Int) : Prop :=
  bif decide (t2_3 < t_3) then (
    sp35.pre (s1_3, s2_3, s3_3, s4_3, t2_3, ()) ∧
  bif !decide (elemAt s2_3 s3_3 s4_3 t2_3 = 0) then (
    K (.int .i64 (elemAt s2_3 s3_3 s4_3 t2_3)) [])
  else (
    W4 (t_3, IntKind.i64.wrap (t2_3 + 1), s1_3, s2_3, s3_3, s4_3, ())))
  else (
    bif decide (1099511627776 < IntKind.i64.wrap (s1_3 + (s3_3.length : Int))) then (
    K (.int .i64 4) [])
  else (
    K (.int .i64 0) []))
def F19_L4 (K : Kn) (g : prodL [.int .i64, .int .i64, .int .i64, .int .i64, .sl .str, .sl .i64]) : Prop :=
  LoopW (γ := prodL [.int .i64, .int .i64, .int .i64, .int .i64, .sl .str, .sl .i64]) (fun V y => F19_B4 K V y.1 y.2.1 y.2.2.1 y.2.2.2.1 y.2.2.2.2.1 y.2.2.2.2.2.1) g
def F19_J2 (K : Kn) (t_1 : Bool) (s1_1 : Int) (s2_1 : Int) (s3_1 : List ByteArray) (s4_1 : List Int) : Prop :=
  bif t_1 then (
    K (.int .i64 2) [])
  else (
    bif decide (1000 < (s3_1.length : Int)) then (
      K (.int .i64 17) [])
    else (
      bif !decide ((s4_1.length : Int) = (s3_1.length : Int)) then (
        K (.int .i64 1) [])
      else (
        F19_L4 K ((s3_1.length : Int), 0, s1_1, s2_1, s3_1, s4_1, ()))))
def F19 (g : prodL L19) (K : Kn) : Prop :=
  bif decide (g.2.1 < 1) then (
    F19_J2 K true g.1 g.2.1 g.2.2.1 g.2.2.2.1)
  else (
    bif decide (64 < g.2.1) then (
      F19_J2 K true g.1 g.2.1 g.2.2.1 g.2.2.2.1)
    else (
      sp32.pre (g.1, ()) ∧
      F19_J2 K (!(okN g.1)) g.1 g.2.1 g.2.2.1 g.2.2.2.1))
theorem F19_eq (g : prodL L19) (K X : Kn) : F19 g K = dfun D (gamX [] [(32, true, sp32), (35, true, sp35)]) (isRaw []) H19 J19 53 [.tmp 2] (codeOf Try.f19) (argsT S19 L19 g) [] (settle0 K) X := by kernel_rfl
theorem F19_ok (g : prodL L19) (K X : Kn) (h : F19 g K) : FCalls Try.prog 19 (argsT S19 L19 g) [] K X :=
  FCalls.settle0 (dfun_sound (Γ := gamX [] [(32, true, sp32), (35, true, sp35)]) (mu := isRaw []) (H := H19) (J := J19) D_ok (gamX_ok (rs := []) (l := [(32, true, sp32), (35, true, sp35)]) (fun p hp => by cases hp) (by intro p hp; simp only [List.mem_cons, List.not_mem_nil, or_false] at hp; rcases hp with rfl | rfl <;> first | exact sp32_ok | exact sp35_ok)) gamX_det rfl Try.func19 (c := codeOf Try.f19) rfl Try.ntmps19 (rs := [.tmp 2]) Try.results19 (by unfold enters; rw [Try.func19]; kernel_rfl) (Nat.le_of_ble_eq_true (by kernel_rfl)) (X := X) (c0 := 0) (Eq.mp (F19_eq g K X) h))
/-- quilt/quiltref49.Check -/
def H20 : List (Nat × Hint) := [(8, ⟨[((1, []), none)], [(1, .pt 0 0), (3, .leaf)], [.cells [.leaf, .leaf, .leaf, .leaf]], [.int .i64, .int .i64, .int .i64, .sl .str, .sl .i64]⟩)]
def J20 : List (Nat × Hint) := [(2, ⟨[((1, []), none)], [(1, .pt 0 0), (17, .leaf)], [.cells [.leaf, .leaf, .leaf, .leaf]], [.bool, .int .i64, .int .i64, .sl .str, .sl .i64]⟩), (13, ⟨[((1, []), none)], [(1, .pt 0 0), (3, .leaf), (63, .leaf)], [.cells [.leaf, .leaf, .leaf, .leaf]], [.int .i64, .bool, .int .i64, .int .i64, .sl .str, .sl .i64]⟩)]
abbrev S20 : List Sh := [.ag [.leaf, .leaf, .leaf, .leaf]]
abbrev L20 : List Lf := [.int .i64, .int .i64, .sl .str, .sl .i64]
def F20_J9 (K : Kn) (W4 : prodL [.int .i64, .int .i64, .int .i64, .sl .str, .sl .i64] → Prop) (i_8 : Int) (t_8 : Bool) (s1_8 : Int) (s2_8 : Int) (s3_8 : List ByteArray) (s4_8 : List Int) : Prop :=
  bif t_8 then (
    K (.int .i64 2) [])
  else (
    W4 (IntKind.i64.wrap (i_8 + 1), s1_8, s2_8, s3_8, s4_8, ()))
def F20_B4 (K : Kn) (W4 : prodL [.int .i64, .int .i64, .int .i64, .sl .str, .sl .i64] → Prop) (i_3 : Int) (s1_3 : Int) (s2_3 : Int) (s3_3 : List ByteArray) (s4_3 : List Int) : Prop :=
  bif decide (i_3 < (s3_3.length : Int)) then (
    At s3_3 i_3 fun u5 =>
  sp31.pre (u5, ()) ∧
  bif !(fitsB u5) then (
    K (.int .i64 4) [])
  else (
    At s4_3 i_3 fun u6 =>
  bif !decide (u6 = (-1)) then (
    At s4_3 i_3 fun u7 =>
    sp34.pre (u7, ()) ∧
    bif !(okN u7) then (
      F20_J9 K W4 i_3 true s1_3 s2_3 s3_3 s4_3)
    else (
      F20_J9 K W4 i_3 (decide (s2_3 ≤ i_3)) s1_3 s2_3 s3_3 s4_3))
  else (
    F20_J9 K W4 i_3 false s1_3 s2_3 s3_3 s4_3)))
  else (
    bif decide (1099511627776 < IntKind.i64.wrap (s1_3 + (s3_3.length : Int))) then (
    K (.int .i64 4) [])
  else (
    K (.int .i64 0) []))
def F20_L4 (K : Kn) (g : prodL [.int .i64, .int .i64, .int .i64, .sl .str, .sl .i64]) : Prop :=
  LoopW (γ := prodL [.int .i64, .int .i64, .int .i64, .sl .str, .sl .i64]) (fun V y => F20_B4 K V y.1 y.2.1 y.2.2.1 y.2.2.2.1 y.2.2.2.2.1) g
def F20_J2 (K : Kn) (t_1 : Bool) (s1_1 : Int) (s2_1 : Int) (s3_1 : List ByteArray) (s4_1 : List Int) : Prop :=
  bif t_1 then (
    K (.int .i64 2) [])
  else (
    bif decide (1000 < (s3_1.length : Int)) then (
    K (.int .i64 17) [])
  else (
    bif !decide ((s4_1.length : Int) = (s3_1.length : Int)) then (
    K (.int .i64 1) [])
  else (
    F20_L4 K (0, s1_1, s2_1, s3_1, s4_1, ()))))
def F20 (g : prodL L20) (K : Kn) : Prop :=
  bif decide (g.2.1 < 1) then (
    F20_J2 K true g.1 g.2.1 g.2.2.1 g.2.2.2.1)
  else (
    bif decide (64 < g.2.1) then (
      F20_J2 K true g.1 g.2.1 g.2.2.1 g.2.2.2.1)
    else (
      sp34.pre (g.1, ()) ∧
      F20_J2 K (!(okN g.1)) g.1 g.2.1 g.2.2.1 g.2.2.2.1))
theorem F20_eq (g : prodL L20) (K X : Kn) : F20 g K = dfun D (gamX [] [(31, true, sp31), (34, true, sp34)]) (isRaw []) H20 J20 71 [.tmp 2] (codeOf Try.f20) (argsT S20 L20 g) [] (settle0 K) X := by kernel_rfl
theorem F20_ok (g : prodL L20) (K X : Kn) (h : F20 g K) : FCalls Try.prog 20 (argsT S20 L20 g) [] K X :=
  FCalls.settle0 (dfun_sound (Γ := gamX [] [(31, true, sp31), (34, true, sp34)]) (mu := isRaw []) (H := H20) (J := J20) D_ok (gamX_ok (rs := []) (l := [(31, true, sp31), (34, true, sp34)]) (fun p hp => by cases hp) (by intro p hp; simp only [List.mem_cons, List.not_mem_nil, or_false] at hp; rcases hp with rfl | rfl <;> first | exact sp31_ok | exact sp34_ok)) gamX_det rfl Try.func20 (c := codeOf Try.f20) rfl Try.ntmps20 (rs := [.tmp 2]) Try.results20 (by unfold enters; rw [Try.func20]; kernel_rfl) (Nat.le_of_ble_eq_true (by kernel_rfl)) (X := X) (c0 := 0) (Eq.mp (F20_eq g K X) h))
/-- quilt/arq.validReceiver -/
def H39 : List (Nat × Hint) := [(5, ⟨[((1, []), none)], [(1, .pt 0 0), (44, .leaf), (45, .leaf), (46, .leaf)], [.cells [.leaf, .leaf, .leaf]], [.sl .str, .int .i64, .int .i64, .int .i64, .sl .boo, .sl .str]⟩)]
def J39 : List (Nat × Hint) := [(3, ⟨[((1, []), none)], [(1, .pt 0 0), (42, .leaf)], [.cells [.leaf, .leaf, .leaf]], [.bool, .int .i64, .sl .boo, .sl .str]⟩), (8, ⟨[((1, []), none)], [(1, .pt 0 0), (44, .leaf), (45, .leaf), (46, .leaf), (65, .leaf)], [.cells [.leaf, .leaf, .leaf]], [.sl .str, .int .i64, .int .i64, .bool, .int .i64, .sl .boo, .sl .str]⟩)]
abbrev S39 : List Sh := [.ag [.leaf, .leaf, .leaf]]
abbrev L39 : List Lf := [.int .i64, .sl .boo, .sl .str]
def F39_J10 (K : Kn) (W6 : prodL [.sl .str, .int .i64, .int .i64, .int .i64, .sl .boo, .sl .str] → Prop) (t_9 : List ByteArray) (t2_9 : Int) (t3_9 : Int) (t4_9 : Bool) (r1_9 : Int) (r2_9 : List Bool) (r3_9 : List ByteArray) : Prop :=
  bif t4_9 then (
    K (.bool false) [])
  else (
    W6 (t_9, t2_9, IntKind.i64.wrap (t3_9 + 1), r1_9, r2_9, r3_9, ()))
def F39_B6 (K : Kn) (W6 : prodL [.sl .str, .int .i64, .int .i64, .int .i64, .sl .boo, .sl .str] → Prop) (t_5 : List ByteArray) (t2_5 : Int) (t3_5 : Int) (r1_5 : Int) (r2_5 : List Bool) (r3_5 : List ByteArray) : Prop :=
  bif decide (t3_5 < t2_5) then (
    At t_5 t3_5 fun u7 =>
  bif decide (65472 < (u7.size : Int)) then (
    F39_J10 K W6 t_5 t2_5 t3_5 true r1_5 r2_5 r3_5)
  else (
    At r2_5 t3_5 fun u8 =>
    bif !u8 then (
      F39_J10 K W6 t_5 t2_5 t3_5 (!decide (u7 = (⟨#[]⟩ : ByteArray))) r1_5 r2_5 r3_5)
    else (
      F39_J10 K W6 t_5 t2_5 t3_5 false r1_5 r2_5 r3_5)))
  else (
    K (.bool true) [])
def F39_L6 (K : Kn) (g : prodL [.sl .str, .int .i64, .int .i64, .int .i64, .sl .boo, .sl .str]) : Prop :=
  LoopW (γ := prodL [.sl .str, .int .i64, .int .i64, .int .i64, .sl .boo, .sl .str]) (fun V y => F39_B6 K V y.1 y.2.1 y.2.2.1 y.2.2.2.1 y.2.2.2.2.1 y.2.2.2.2.2.1) g
def F39_J4 (K : Kn) (t_3 : Bool) (r1_3 : Int) (r2_3 : List Bool) (r3_3 : List ByteArray) : Prop :=
  bif t_3 then (
    K (.bool false) [])
  else (
    F39_L6 K (r3_3, (r3_3.length : Int), 0, r1_3, r2_3, r3_3, ()))
def F39 (g : prodL L39) (K : Kn) : Prop :=
  sp32.pre (g.1, ()) ∧
  bif !(okN g.1) then (
    F39_J4 K true g.1 g.2.1 g.2.2.1)
  else (
    bif !decide ((g.2.2.1.length : Int) = (g.2.1.length : Int)) then (
      F39_J4 K true g.1 g.2.1 g.2.2.1)
    else (
      bif decide (64 < (g.2.1.length : Int)) then (
        F39_J4 K true g.1 g.2.1 g.2.2.1)
      else (
        bif decide (0 < (g.2.1.length : Int)) then (
          At g.2.1 0 fun u1 =>
          bif u1 then (
            F39_J4 K true g.1 g.2.1 g.2.2.1)
          else (
            At g.2.1 (IntKind.i64.wrap ((g.2.1.length : Int) - 1)) fun u2 =>
            F39_J4 K (!u2) g.1 g.2.1 g.2.2.1))
        else (
          F39_J4 K false g.1 g.2.1 g.2.2.1))))
theorem F39_eq (g : prodL L39) (K X : Kn) : F39 g K = dfun D (gamX [] [(32, true, sp32)]) (isRaw []) H39 J39 67 [.tmp 2] (codeOf Try.f39) (argsT S39 L39 g) [] (settle0 K) X := by kernel_rfl
theorem F39_ok (g : prodL L39) (K X : Kn) (h : F39 g K) : FCalls Try.prog 39 (argsT S39 L39 g) [] K X :=
  FCalls.settle0 (dfun_sound (Γ := gamX [] [(32, true, sp32)]) (mu := isRaw []) (H := H39) (J := J39) D_ok (gamX_ok (rs := []) (l := [(32, true, sp32)]) (fun p hp => by cases hp) (by intro p hp; simp only [List.mem_cons, List.not_mem_nil, or_false] at hp; subst hp; exact sp32_ok)) gamX_det rfl Try.func39 (c := codeOf Try.f39) rfl Try.ntmps39 (rs := [.tmp 2]) Try.results39 (by unfold enters; rw [Try.func39]; kernel_rfl) (Nat.le_of_ble_eq_true (by kernel_rfl)) (X := X) (c0 := 0) (Eq.mp (F39_eq g K X) h))
/-- quilt/quiltref49.Valid -/
def H43 : List (Nat × Hint) := [(4, ⟨[((1, []), none)], [(1, .pt 0 0), (3, .leaf)], [.cells [.leaf, .leaf, .leaf]], [.int .i64, .int .i64, .sl .boo, .sl .str]⟩)]
def J43 : List (Nat × Hint) := [(2, ⟨[((1, []), none)], [(1, .pt 0 0), (22, .leaf)], [.cells [.leaf, .leaf, .leaf]], [.bool, .int .i64, .sl .boo, .sl .str]⟩), (7, ⟨[((1, []), none)], [(1, .pt 0 0), (3, .leaf), (52, .leaf)], [.cells [.leaf, .leaf, .leaf]], [.int .i64, .bool, .int .i64, .sl .boo, .sl .str]⟩)]
abbrev S43 : List Sh := [.ag [.leaf, .leaf, .leaf]]
abbrev L43 : List Lf := [.int .i64, .sl .boo, .sl .str]
def F43_J9 (K : Kn) (W4 : prodL [.int .i64, .int .i64, .sl .boo, .sl .str] → Prop) (i_8 : Int) (t_8 : Bool) (r1_8 : Int) (r2_8 : List Bool) (r3_8 : List ByteArray) : Prop :=
  bif t_8 then (
    K (.bool false) [])
  else (
    W4 (IntKind.i64.wrap (i_8 + 1), r1_8, r2_8, r3_8, ()))
def F43_B4 (K : Kn) (W4 : prodL [.int .i64, .int .i64, .sl .boo, .sl .str] → Prop) (i_3 : Int) (r1_3 : Int) (r2_3 : List Bool) (r3_3 : List ByteArray) : Prop :=
  bif decide (i_3 < (r2_3.length : Int)) then (
    At r3_3 i_3 fun u5 =>
  sp31.pre (u5, ()) ∧
  bif !(fitsB u5) then (
    F43_J9 K W4 i_3 true r1_3 r2_3 r3_3)
  else (
    At r2_3 i_3 fun u6 =>
    bif !u6 then (
      At r3_3 i_3 fun u7 =>
      F43_J9 K W4 i_3 (!decide (u7 = (⟨#[]⟩ : ByteArray))) r1_3 r2_3 r3_3)
    else (
      F43_J9 K W4 i_3 false r1_3 r2_3 r3_3)))
  else (
    bif decide ((r2_3.length : Int) = 0) then (
    K (.bool true) [])
  else (
    At r2_3 0 fun u10 =>
    bif !u10 then (
      At r2_3 (IntKind.i64.wrap ((r2_3.length : Int) - 1)) fun u11 =>
      K (.bool u11) [])
    else (
      K (.bool false) [])))
def F43_L4 (K : Kn) (g : prodL [.int .i64, .int .i64, .sl .boo, .sl .str]) : Prop :=
  LoopW (γ := prodL [.int .i64, .int .i64, .sl .boo, .sl .str]) (fun V y => F43_B4 K V y.1 y.2.1 y.2.2.1 y.2.2.2.1) g
def F43_J2 (K : Kn) (t_1 : Bool) (r1_1 : Int) (r2_1 : List Bool) (r3_1 : List ByteArray) : Prop :=
  bif t_1 then (
    K (.bool false) [])
  else (
    F43_L4 K (0, r1_1, r2_1, r3_1, ()))
def F43 (g : prodL L43) (K : Kn) : Prop :=
  sp34.pre (g.1, ()) ∧
  bif !(okN g.1) then (
    F43_J2 K true g.1 g.2.1 g.2.2.1)
  else (
    bif !decide ((g.2.1.length : Int) = (g.2.2.1.length : Int)) then (
      F43_J2 K true g.1 g.2.1 g.2.2.1)
    else (
      F43_J2 K (decide (64 < (g.2.1.length : Int))) g.1 g.2.1 g.2.2.1))
theorem F43_eq (g : prodL L43) (K X : Kn) : F43 g K = dfun D (gamX [] [(31, true, sp31), (34, true, sp34)]) (isRaw []) H43 J43 74 [.tmp 2] (codeOf Try.f43) (argsT S43 L43 g) [] (settle0 K) X := by kernel_rfl
theorem F43_ok (g : prodL L43) (K X : Kn) (h : F43 g K) : FCalls Try.prog 43 (argsT S43 L43 g) [] K X :=
  FCalls.settle0 (dfun_sound (Γ := gamX [] [(31, true, sp31), (34, true, sp34)]) (mu := isRaw []) (H := H43) (J := J43) D_ok (gamX_ok (rs := []) (l := [(31, true, sp31), (34, true, sp34)]) (fun p hp => by cases hp) (by intro p hp; simp only [List.mem_cons, List.not_mem_nil, or_false] at hp; rcases hp with rfl | rfl <;> first | exact sp31_ok | exact sp34_ok)) gamX_det rfl Try.func43 (c := codeOf Try.f43) rfl Try.ntmps43 (rs := [.tmp 2]) Try.results43 (by unfold enters; rw [Try.func43]; kernel_rfl) (Nat.le_of_ble_eq_true (by kernel_rfl)) (X := X) (c0 := 0) (Eq.mp (F43_eq g K X) h))
/-- quilt/arq.NewSender -/
def H11 : List (Nat × Hint) := []
def J11 : List (Nat × Hint) := [(2, ⟨[((2, []), none)], [(0, .leaf), (2, .pt 0 0), (9, .leaf)], [.cells [.leaf, .leaf, .nil, .nil]], [.int .i64, .bool, .int .i64, .int .i64]⟩)]
abbrev S11 : List Sh := [.leaf]
abbrev L11 : List Lf := [.int .i64]
def F11_J2 (K : Kn) (window_1 : Int) (t_1 : Bool) (t1_1 : Int) (t2_1 : Int) : Prop :=
  bif t_1 then (
    K (.tu [.ag [.int .i64 0, .int .i64 0, .nil, .nil], .int .i64 2]) [])
  else (
    K (.tu [.ag [.int .i64 0, .int .i64 window_1, .nil, .nil], .int .i64 0]) [])
def F11 (g : prodL L11) (K : Kn) : Prop :=
  bif decide (g.1 < 1) then (
    F11_J2 K g.1 true 0 0)
  else (
    F11_J2 K g.1 (decide (64 < g.1)) 0 0)
theorem F11_eq (g : prodL L11) (K X : Kn) : F11 g K = dfun D (gamX [] []) (isRaw []) H11 J11 13 [.cell 2 25, .tmp 3] (codeOf Try.f11) (argsT S11 L11 g) [] (settle0 K) X := by kernel_rfl
theorem F11_ok (g : prodL L11) (K X : Kn) (h : F11 g K) : FCalls Try.prog 11 (argsT S11 L11 g) [] K X :=
  FCalls.settle0 (dfun_sound (Γ := gamX [] []) (mu := isRaw []) (H := H11) (J := J11) D_ok (gamX_ok (rs := []) (l := []) (fun p hp => by cases hp) (fun p hp => by cases hp)) gamX_det rfl Try.func11 (c := codeOf Try.f11) rfl Try.ntmps11 (rs := [.cell 2 25, .tmp 3]) Try.results11 (by unfold enters; rw [Try.func11]; kernel_rfl) (Nat.le_of_ble_eq_true (by kernel_rfl)) (X := X) (c0 := 0) (Eq.mp (F11_eq g K X) h))
/-- quilt/quiltref49.NewSender -/
def H12 : List (Nat × Hint) := []
def J12 : List (Nat × Hint) := [(2, ⟨[((2, []), none)], [(0, .leaf), (2, .pt 0 0), (9, .leaf)], [.cells [.leaf, .leaf, .nil, .nil]], [.int .i64, .bool, .int .i64, .int .i64]⟩)]
abbrev S12 : List Sh := [.leaf]
abbrev L12 : List Lf := [.int .i64]
def F12_J2 (K : Kn) (window_1 : Int) (t_1 : Bool) (t1_1 : Int) (t2_1 : Int) : Prop :=
  bif t_1 then (
    K (.tu [.ag [.int .i64 0, .int .i64 0, .nil, .nil], .int .i64 2]) [])
  else (
    K (.tu [.ag [.int .i64 0, .int .i64 window_1, .nil, .nil], .int .i64 0]) [])
def F12 (g : prodL L12) (K : Kn) : Prop :=
  bif decide (g.1 < 1) then (
    F12_J2 K g.1 true 0 0)
  else (
    F12_J2 K g.1 (decide (64 < g.1)) 0 0)
theorem F12_eq (g : prodL L12) (K X : Kn) : F12 g K = dfun D (gamX [] []) (isRaw []) H12 J12 13 [.cell 2 25, .tmp 3] (codeOf Try.f12) (argsT S12 L12 g) [] (settle0 K) X := by kernel_rfl
theorem F12_ok (g : prodL L12) (K X : Kn) (h : F12 g K) : FCalls Try.prog 12 (argsT S12 L12 g) [] K X :=
  FCalls.settle0 (dfun_sound (Γ := gamX [] []) (mu := isRaw []) (H := H12) (J := J12) D_ok (gamX_ok (rs := []) (l := []) (fun p hp => by cases hp) (fun p hp => by cases hp)) gamX_det rfl Try.func12 (c := codeOf Try.f12) rfl Try.ntmps12 (rs := [.cell 2 25, .tmp 3]) Try.results12 (by unfold enters; rw [Try.func12]; kernel_rfl) (Nat.le_of_ble_eq_true (by kernel_rfl)) (X := X) (c0 := 0) (Eq.mp (F12_eq g K X) h))
end Go.Proofs.Ytofjpelbjehddaa
