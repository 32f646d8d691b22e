/- What functions come to: printed by exf.py. -/
import Derived.Test.YthjikjhddddplaaTD
import Derived.Test.YthjikjhddddplaaA6
namespace Go.Proofs.Ythjikjhddddplaa
set_option linter.unusedVariables false
set_option linter.unusedSimpArgs false
open Go.RowKit
/-- quilt/link.checkPacket -/
def H26 : List (Nat × Hint) := []
def J26 : List (Nat × Hint) := [(2, ⟨[((1, []), none)], [(1, .pt 0 0), (10, .leaf)], [.cells [.leaf, .leaf]], [.bool, .int .i64, .str]⟩)]
abbrev S26 : List Sh := [.ag [.leaf, .leaf]]
abbrev L26 : List Lf := [.int .i64, .str]
def F26 (g : prodL L26) (K : Kn) : Prop :=
  let J2 : prodL [.bool, .int .i64, .str] → Prop := fun g1 => (
    bif g1.1 then (
      K (.int .i64 2) [])
    else (
      bif decide (65536 < (g1.2.2.1.size : Int)) then (
    K (.int .i64 4) [])
  else (
    K (.int .i64 0) [])));
  bif !decide (g.1 = 0) then (
    J2 (!decide (g.1 = 1), g.1, g.2.1, ()))
  else (
    J2 (false, g.1, g.2.1, ()))
theorem F26_eq (g : prodL L26) (K X : Kn) : F26 g K = dfun D (gamX [] []) (isRaw []) H26 J26 15 [.tmp 2] (codeOf Try.f26) (argsT S26 L26 g) [] (settle0 K) X := by kernel_rfl
theorem F26_ok (g : prodL L26) (K X : Kn) (h : F26 g K) : FCalls Try.prog 26 (argsT S26 L26 g) [] K X :=
  FCalls.settle0 (dfun_sound (Γ := gamX [] []) (mu := isRaw []) (H := H26) (J := J26) D_ok (gamX_ok (rs := []) (l := []) (fun p hp => by cases hp) (fun p hp => by cases hp)) gamX_det rfl Try.func26 (c := codeOf Try.f26) rfl Try.ntmps26 Try.results26 (by unfold enters; rw [Try.func26]; kernel_rfl) (Nat.le_of_ble_eq_true (by kernel_rfl)) (X := X) (c0 := 0) (by rw [F26_eq g K X] at h; exact h))
/-- quilt/quiltref46.flight -/
def H31 : List (Nat × Hint) := []
def J31 : List (Nat × Hint) := [(2, ⟨[((2, []), none)], [(1, .leaf), (2, .pt 0 0), (14, .leaf)], [.cells [.leaf, .leaf, .leaf]], [.int .i64, .bool, .int .i64, .str, .int .i64]⟩), (6, ⟨[], [(30, .leaf)], [], [.bool]⟩)]
abbrev S31 : List Sh := [.ag [.leaf, .leaf, .leaf], .leaf]
abbrev L31 : List Lf := [.int .i64, .str, .int .i64, .int .i64]
def F31 (g : prodL L31) (K : Kn) : Prop :=
  let J2 : prodL [.int .i64, .bool, .int .i64, .str, .int .i64] → Prop := fun g1 => (
    bif g1.2.1 then (
      K (.int .i64 2) [])
    else (
      bif decide (65536 < (g1.2.2.2.1.size : Int)) then (
    K (.int .i64 4) [])
  else (
    let J4 : prodL [.bool] → Prop := fun g3 => (
    bif g3.1 then (
      K (.int .i64 2) [])
    else (
      K (.int .i64 0) []));
  bif decide (g1.2.2.2.2.1 ≤ g1.1) then (
    J4 (true, ()))
  else (
    J4 (decide (IntKind.i64.wrap (g1.1 + 9) < g1.2.2.2.2.1), ())))));
  bif !decide (g.1 = 0) then (
    J2 (g.2.2.2.1, !decide (g.1 = 1), g.1, g.2.1, g.2.2.1, ()))
  else (
    J2 (g.2.2.2.1, false, g.1, g.2.1, g.2.2.1, ()))
theorem F31_eq (g : prodL L31) (K X : Kn) : F31 g K = dfun D (gamX [] []) (isRaw []) H31 J31 31 [.tmp 4] (codeOf Try.f31) (argsT S31 L31 g) [] (settle0 K) X := by kernel_rfl
theorem F31_ok (g : prodL L31) (K X : Kn) (h : F31 g K) : FCalls Try.prog 31 (argsT S31 L31 g) [] K X :=
  FCalls.settle0 (dfun_sound (Γ := gamX [] []) (mu := isRaw []) (H := H31) (J := J31) D_ok (gamX_ok (rs := []) (l := []) (fun p hp => by cases hp) (fun p hp => by cases hp)) gamX_det rfl Try.func31 (c := codeOf Try.f31) rfl Try.ntmps31 Try.results31 (by unfold enters; rw [Try.func31]; kernel_rfl) (Nat.le_of_ble_eq_true (by kernel_rfl)) (X := X) (c0 := 0) (by rw [F31_eq g K X] at h; exact h))
/-- quilt/link.Idle -/
def H17 : List (Nat × Hint) := []
def J17 : List (Nat × Hint) := []
abbrev S17 : List Sh := [.ag [.leaf, .leaf, .leaf]]
abbrev L17 : List Lf := [.int .i64, .sl .flt, .sl .i64]
def F17 (g : prodL L17) (K : Kn) : Prop :=
  K (.bool (decide ((g.2.1.length : Int) = 0))) []
theorem F17_eq (g : prodL L17) (K X : Kn) : F17 g K = dfun D (gamX [] []) (isRaw []) H17 J17 7 [.tmp 2] (codeOf Try.f17) (argsT S17 L17 g) [] (settle0 K) X := by kernel_rfl
theorem F17_ok (g : prodL L17) (K X : Kn) (h : F17 g K) : FCalls Try.prog 17 (argsT S17 L17 g) [] K X :=
  FCalls.settle0 (dfun_sound (Γ := gamX [] []) (mu := isRaw []) (H := H17) (J := J17) D_ok (gamX_ok (rs := []) (l := []) (fun p hp => by cases hp) (fun p hp => by cases hp)) gamX_det rfl Try.func17 (c := codeOf Try.f17) rfl Try.ntmps17 Try.results17 (by unfold enters; rw [Try.func17]; kernel_rfl) (Nat.le_of_ble_eq_true (by kernel_rfl)) (X := X) (c0 := 0) (by rw [F17_eq g K X] at h; exact h))
/-- quilt/quiltref46.Idle -/
def H18 : List (Nat × Hint) := []
def J18 : List (Nat × Hint) := []
abbrev S18 : List Sh := [.ag [.leaf, .leaf, .leaf]]
abbrev L18 : List Lf := [.int .i64, .sl .flt, .sl .i64]
def F18 (g : prodL L18) (K : Kn) : Prop :=
  K (.bool (decide ((g.2.1.length : Int) = 0))) []
theorem F18_eq (g : prodL L18) (K X : Kn) : F18 g K = dfun D (gamX [] []) (isRaw []) H18 J18 7 [.tmp 2] (codeOf Try.f18) (argsT S18 L18 g) [] (settle0 K) X := by kernel_rfl
theorem F18_ok (g : prodL L18) (K X : Kn) (h : F18 g K) : FCalls Try.prog 18 (argsT S18 L18 g) [] K X :=
  FCalls.settle0 (dfun_sound (Γ := gamX [] []) (mu := isRaw []) (H := H18) (J := J18) D_ok (gamX_ok (rs := []) (l := []) (fun p hp => by cases hp) (fun p hp => by cases hp)) gamX_det rfl Try.func18 (c := codeOf Try.f18) rfl Try.ntmps18 Try.results18 (by unfold enters; rw [Try.func18]; kernel_rfl) (Nat.le_of_ble_eq_true (by kernel_rfl)) (X := X) (c0 := 0) (by rw [F18_eq g K X] at h; exact h))
/-- quilt/quiltref46.Great -/
def H10 : List (Nat × Hint) := [(2, ⟨[((1, []), none)], [(1, .pt 0 0), (3, .leaf)], [.cells [.leaf, .leaf, .leaf]], [.int .i64, .int .i64, .sl .flt, .sl .i64]⟩)]
def J10 : List (Nat × Hint) := [(6, ⟨[((1, []), none)], [(1, .pt 0 0)], [.cells [.leaf, .leaf, .leaf]], [.int .i64, .sl .flt, .sl .i64]⟩)]
abbrev S10 : List Sh := [.ag [.leaf, .leaf, .leaf]]
abbrev L10 : List Lf := [.int .i64, .sl .flt, .sl .i64]
def F10 (g : prodL L10) (K : Kn) : Prop :=
  let J5 : prodL [.int .i64, .sl .flt, .sl .i64] → Prop := fun g4 => (
    bif decide (12 < (g4.2.1.length : Int)) then (
      K (.bool true) [])
    else (
      K (.bool (decide (20 < (g4.2.2.1.length : Int)))) []));
  LoopW (γ := prodL [.int .i64, .int .i64, .sl .flt, .sl .i64]) (fun W2 g1 =>
    bif decide (g1.1 < (g1.2.2.1.length : Int)) then (
      bif decide (g1.1 < 13) then (
      At g1.2.2.1 g1.1 fun u3 =>
    bif decide (200 < (u3.pkt.data.size : Int)) then (
      K (.bool true) [])
    else (
      W2 (IntKind.i64.wrap (g1.1 + 1), g1.2.1, g1.2.2.1, g1.2.2.2.1, ())))
    else (
      J5 (g1.2.1, g1.2.2.1, g1.2.2.2.1, ())))
    else (
      J5 (g1.2.1, g1.2.2.1, g1.2.2.2.1, ()))) (0, g.1, g.2.1, g.2.2.1, ())
theorem F10_eq (g : prodL L10) (K X : Kn) : F10 g K = dfun D (gamX [] []) (isRaw []) H10 J10 34 [.tmp 2] (codeOf Try.f10) (argsT S10 L10 g) [] (settle0 K) X := by kernel_rfl
theorem F10_ok (g : prodL L10) (K X : Kn) (h : F10 g K) : FCalls Try.prog 10 (argsT S10 L10 g) [] K X :=
  FCalls.settle0 (dfun_sound (Γ := gamX [] []) (mu := isRaw []) (H := H10) (J := J10) D_ok (gamX_ok (rs := []) (l := []) (fun p hp => by cases hp) (fun p hp => by cases hp)) gamX_det rfl Try.func10 (c := codeOf Try.f10) rfl Try.ntmps10 Try.results10 (by unfold enters; rw [Try.func10]; kernel_rfl) (Nat.le_of_ble_eq_true (by kernel_rfl)) (X := X) (c0 := 0) (by rw [F10_eq g K X] at h; exact h))
/-- quilt/quiltref46.SamePackets -/
def H21 : List (Nat × Hint) := [(4, ⟨[], [(0, .leaf), (1, .leaf), (5, .leaf)], [], [.sl .pkt, .sl .pkt, .int .i64]⟩)]
def J21 : List (Nat × Hint) := []
abbrev S21 : List Sh := [.leaf, .leaf]
abbrev L21 : List Lf := [.sl .pkt, .sl .pkt]
def F21 (g : prodL L21) (K : Kn) : Prop :=
  bif !decide ((g.1.length : Int) = (g.2.1.length : Int)) then (
    K (.bool false) [])
  else (
    LoopW (γ := prodL [.sl .pkt, .sl .pkt, .int .i64]) (fun W2 g1 =>
    bif decide (g1.2.2.1 < (g1.1.length : Int)) then (
      At g1.1 g1.2.2.1 fun u3 =>
    At g1.2.1 g1.2.2.1 fun u4 =>
    bif !(decide (u3.to = u4.to) && (decide (u3.data = u4.data) && (true))) then (
      K (.bool false) [])
    else (
      W2 (g1.1, g1.2.1, IntKind.i64.wrap (g1.2.2.1 + 1), ())))
    else (
      K (.bool true) [])) (g.1, g.2.1, 0, ()))
theorem F21_eq (g : prodL L21) (K X : Kn) : F21 g K = dfun D (gamX [] []) (isRaw []) H21 J21 26 [.tmp 4] (codeOf Try.f21) (argsT S21 L21 g) [] (settle0 K) X := by kernel_rfl
theorem F21_ok (g : prodL L21) (K X : Kn) (h : F21 g K) : FCalls Try.prog 21 (argsT S21 L21 g) [] K X :=
  FCalls.settle0 (dfun_sound (Γ := gamX [] []) (mu := isRaw []) (H := H21) (J := J21) D_ok (gamX_ok (rs := []) (l := []) (fun p hp => by cases hp) (fun p hp => by cases hp)) gamX_det rfl Try.func21 (c := codeOf Try.f21) rfl Try.ntmps21 Try.results21 (by unfold enters; rw [Try.func21]; kernel_rfl) (Nat.le_of_ble_eq_true (by kernel_rfl)) (X := X) (c0 := 0) (by rw [F21_eq g K X] at h; exact h))
/-- quilt/quiltlaw46.short -/
def H22 : List (Nat × Hint) := [(2, ⟨[], [(0, .leaf), (5, .leaf), (6, .leaf), (7, .leaf)], [], [.sl .pkt, .sl .pkt, .int .i64, .int .i64]⟩)]
def J22 : List (Nat × Hint) := [(5, ⟨[], [(0, .leaf), (5, .leaf), (6, .leaf), (7, .leaf), (24, .leaf)], [], [.sl .pkt, .sl .pkt, .int .i64, .int .i64, .bool]⟩)]
abbrev S22 : List Sh := [.leaf]
abbrev L22 : List Lf := [.sl .pkt]
def F22 (g : prodL L22) (K : Kn) : Prop :=
  LoopW (γ := prodL [.sl .pkt, .sl .pkt, .int .i64, .int .i64]) (fun W2 g1 =>
    bif decide (g1.2.2.2.1 < g1.2.2.1) then (
      At g1.2.1 g1.2.2.2.1 fun u3 =>
    let J5 : prodL [.sl .pkt, .sl .pkt, .int .i64, .int .i64, .bool] → Prop := fun g4 => (
      bif g4.2.2.2.2.1 then (
        K (.bool false) [])
      else (
        W2 (g4.1, g4.2.1, g4.2.2.1, IntKind.i64.wrap (g4.2.2.2.1 + 1), ())));
    bif decide (200 < (u3.data.size : Int)) then (
      J5 (g1.1, g1.2.1, g1.2.2.1, g1.2.2.2.1, true, ()))
    else (
      bif !decide (u3.to = 0) then (
        J5 (g1.1, g1.2.1, g1.2.2.1, g1.2.2.2.1, !decide (u3.to = 1), ()))
      else (
        J5 (g1.1, g1.2.1, g1.2.2.1, g1.2.2.2.1, false, ()))))
    else (
      K (.bool (decide ((g1.1.length : Int) ≤ 12))) [])) (g.1, g.1, (g.1.length : Int), 0, ())
theorem F22_eq (g : prodL L22) (K X : Kn) : F22 g K = dfun D (gamX [] []) (isRaw []) H22 J22 29 [.tmp 2] (codeOf Try.f22) (argsT S22 L22 g) [] (settle0 K) X := by kernel_rfl
theorem F22_ok (g : prodL L22) (K X : Kn) (h : F22 g K) : FCalls Try.prog 22 (argsT S22 L22 g) [] K X :=
  FCalls.settle0 (dfun_sound (Γ := gamX [] []) (mu := isRaw []) (H := H22) (J := J22) D_ok (gamX_ok (rs := []) (l := []) (fun p hp => by cases hp) (fun p hp => by cases hp)) gamX_det rfl Try.func22 (c := codeOf Try.f22) rfl Try.ntmps22 Try.results22 (by unfold enters; rw [Try.func22]; kernel_rfl) (Nat.le_of_ble_eq_true (by kernel_rfl)) (X := X) (c0 := 0) (by rw [F22_eq g K X] at h; exact h))
/-- quilt/quiltref46.Delays -/
def H24 : List (Nat × Hint) := []
def J24 : List (Nat × Hint) := []
abbrev S24 : List Sh := [.leaf]
abbrev L24 : List Lf := [.int .i64]
def F24 (g : prodL L24) (K : Kn) : Prop :=
  ¬ 4 = (0 : Int) ∧
  ¬ 8 = (0 : Int) ∧
  ¬ 4 = (0 : Int) ∧
  bif decide (Int.tmod g.1 4 = 1) then (
    K (.sl true .i64 [1]) [])
  else (
    bif decide (Int.tmod g.1 4 = 2) then (
      K (.sl true .i64 [(IntKind.i64.wrap (1 + (Int.tmod (IntKind.i64.wrap (Int.tdiv g.1 4)) 8)))]) [])
    else (
      bif decide (Int.tmod g.1 4 = 3) then (
        K (.sl true .i64 [1, (IntKind.i64.wrap (2 + (Int.tmod (IntKind.i64.wrap (Int.tdiv g.1 4)) 8)))]) [])
      else (
        K (.nil) [])))
theorem F24_eq (g : prodL L24) (K X : Kn) : F24 g K = dfun D (gamX [] []) (isRaw []) H24 J24 23 [.tmp 2] (codeOf Try.f24) (argsT S24 L24 g) [] (settle0 K) X := by kernel_rfl
theorem F24_ok (g : prodL L24) (K X : Kn) (h : F24 g K) : FCalls Try.prog 24 (argsT S24 L24 g) [] K X :=
  FCalls.settle0 (dfun_sound (Γ := gamX [] []) (mu := isRaw []) (H := H24) (J := J24) D_ok (gamX_ok (rs := []) (l := []) (fun p hp => by cases hp) (fun p hp => by cases hp)) gamX_det rfl Try.func24 (c := codeOf Try.f24) rfl Try.ntmps24 Try.results24 (by unfold enters; rw [Try.func24]; kernel_rfl) (Nat.le_of_ble_eq_true (by kernel_rfl)) (X := X) (c0 := 0) (by rw [F24_eq g K X] at h; exact h))
/-- (quilt/link.fate).delays -/
def H28 : List (Nat × Hint) := []
def J28 : List (Nat × Hint) := []
abbrev S28 : List Sh := [.leaf]
abbrev L28 : List Lf := [.int .i64]
def F28 (g : prodL L28) (K : Kn) : Prop :=
  ¬ 4 = (0 : Int) ∧
  ¬ 8 = (0 : Int) ∧
  ¬ 4 = (0 : Int) ∧
  bif decide (Int.tmod g.1 4 = 0) then (
    K (.nil) [])
  else (
    bif decide (Int.tmod g.1 4 = 1) then (
      K (.sl true .i64 [1]) [])
    else (
      bif decide (Int.tmod g.1 4 = 2) then (
        K (.sl true .i64 [(IntKind.i64.wrap (1 + (Int.tmod (IntKind.i64.wrap (Int.tdiv g.1 4)) 8)))]) [])
      else (
        K (.sl true .i64 [1, (IntKind.i64.wrap (2 + (Int.tmod (IntKind.i64.wrap (Int.tdiv g.1 4)) 8)))]) [])))
theorem F28_eq (g : prodL L28) (K X : Kn) : F28 g K = dfun D (gamX [] []) (isRaw []) H28 J28 22 [.tmp 2] (codeOf Try.f28) (argsT S28 L28 g) [] (settle0 K) X := by kernel_rfl
theorem F28_ok (g : prodL L28) (K X : Kn) (h : F28 g K) : FCalls Try.prog 28 (argsT S28 L28 g) [] K X :=
  FCalls.settle0 (dfun_sound (Γ := gamX [] []) (mu := isRaw []) (H := H28) (J := J28) D_ok (gamX_ok (rs := []) (l := []) (fun p hp => by cases hp) (fun p hp => by cases hp)) gamX_det rfl Try.func28 (c := codeOf Try.f28) rfl Try.ntmps28 Try.results28 (by unfold enters; rw [Try.func28]; kernel_rfl) (Nat.le_of_ble_eq_true (by kernel_rfl)) (X := X) (c0 := 0) (by rw [F28_eq g K X] at h; exact h))
/-- quilt/quiltlaw46.count -/
def H25 : List (Nat × Hint) := [(3, ⟨[((3, []), none)], [(3, .pt 0 0), (5, .leaf), (8, .leaf), (9, .leaf), (10, .leaf)], [.cells [.leaf, .leaf]], [.int .i64, .sl .pkt, .int .i64, .int .i64, .int .i64, .str]⟩)]
def J25 : List (Nat × Hint) := [(7, ⟨[((3, []), none)], [(3, .pt 0 0), (5, .leaf), (8, .leaf), (9, .leaf), (10, .leaf)], [.cells [.leaf, .leaf]], [.int .i64, .sl .pkt, .int .i64, .int .i64, .int .i64, .str]⟩)]
abbrev S25 : List Sh := [.leaf, .ag [.leaf, .leaf]]
abbrev L25 : List Lf := [.sl .pkt, .int .i64, .str]
def F25 (g : prodL L25) (K : Kn) : Prop :=
  LoopW (γ := prodL [.int .i64, .sl .pkt, .int .i64, .int .i64, .int .i64, .str]) (fun W2 g1 =>
    bif decide (g1.2.2.2.1 < g1.2.2.1) then (
      let J5 : prodL [.int .i64, .sl .pkt, .int .i64, .int .i64, .int .i64, .str] → Prop := fun g4 => (
      W2 (g4.1, g4.2.1, g4.2.2.1, IntKind.i64.wrap (g4.2.2.2.1 + 1), g4.2.2.2.2.1, g4.2.2.2.2.2.1, ()));
    At g1.2.1 g1.2.2.2.1 fun u3 =>
    bif decide (u3.to = g1.2.2.2.2.1) && (decide (u3.data = g1.2.2.2.2.2.1) && (true)) then (
      J5 (IntKind.i64.wrap (g1.1 + 1), g1.2.1, g1.2.2.1, g1.2.2.2.1, g1.2.2.2.2.1, g1.2.2.2.2.2.1, ()))
    else (
      J5 (g1.1, g1.2.1, g1.2.2.1, g1.2.2.2.1, g1.2.2.2.2.1, g1.2.2.2.2.2.1, ())))
    else (
      K (.int .i64 g1.1) [])) (0, g.1, (g.1.length : Int), 0, g.2.1, g.2.2.1, ())
theorem F25_eq (g : prodL L25) (K X : Kn) : F25 g K = dfun D (gamX [] []) (isRaw []) H25 J25 21 [.tmp 4] (codeOf Try.f25) (argsT S25 L25 g) [] (settle0 K) X := by kernel_rfl
theorem F25_ok (g : prodL L25) (K X : Kn) (h : F25 g K) : FCalls Try.prog 25 (argsT S25 L25 g) [] K X :=
  FCalls.settle0 (dfun_sound (Γ := gamX [] []) (mu := isRaw []) (H := H25) (J := J25) D_ok (gamX_ok (rs := []) (l := []) (fun p hp => by cases hp) (fun p hp => by cases hp)) gamX_det rfl Try.func25 (c := codeOf Try.f25) rfl Try.ntmps25 Try.results25 (by unfold enters; rw [Try.func25]; kernel_rfl) (Nat.le_of_ble_eq_true (by kernel_rfl)) (X := X) (c0 := 0) (by rw [F25_eq g K X] at h; exact h))
/-- quilt/quiltref46.Same -/
def H16 : List (Nat × Hint) := [(4, ⟨[((2, []), none), ((3, []), none)], [(2, .pt 0 0), (3, .pt 1 0), (5, .leaf)], [.cells [.leaf, .leaf, .leaf], .cells [.leaf, .leaf, .leaf]], [.int .i64, .int .i64, .sl .flt, .sl .i64, .int .i64, .sl .flt, .sl .i64]⟩), (9, ⟨[((2, []), none), ((3, []), none)], [(2, .pt 0 0), (3, .pt 1 0), (6, .leaf)], [.cells [.leaf, .leaf, .leaf], .cells [.leaf, .leaf, .leaf]], [.int .i64, .int .i64, .sl .flt, .sl .i64, .int .i64, .sl .flt, .sl .i64]⟩)]
def J16 : List (Nat × Hint) := [(2, ⟨[((2, []), none), ((3, []), none)], [(2, .pt 0 0), (3, .pt 1 0), (29, .leaf)], [.cells [.leaf, .leaf, .leaf], .cells [.leaf, .leaf, .leaf]], [.bool, .int .i64, .sl .flt, .sl .i64, .int .i64, .sl .flt, .sl .i64]⟩)]
abbrev S16 : List Sh := [.ag [.leaf, .leaf, .leaf], .ag [.leaf, .leaf, .leaf]]
abbrev L16 : List Lf := [.int .i64, .sl .flt, .sl .i64, .int .i64, .sl .flt, .sl .i64]
def F16 (g : prodL L16) (K : Kn) : Prop :=
  let J2 : prodL [.bool, .int .i64, .sl .flt, .sl .i64, .int .i64, .sl .flt, .sl .i64] → Prop := fun g1 => (
    bif g1.1 then (
      K (.bool false) [])
    else (
      LoopW (γ := prodL [.int .i64, .int .i64, .sl .flt, .sl .i64, .int .i64, .sl .flt, .sl .i64]) (fun W4 g3 =>
    bif decide (g3.1 < (g3.2.2.1.length : Int)) then (
      At g3.2.2.1 g3.1 fun u5 =>
    At g3.2.2.2.2.2.1 g3.1 fun u6 =>
    bif !(decide (u5.pkt.to = u6.pkt.to) && (decide (u5.pkt.data = u6.pkt.data) && (decide (u5.due = u6.due) && (true)))) then (
      K (.bool false) [])
    else (
      W4 (IntKind.i64.wrap (g3.1 + 1), g3.2.1, g3.2.2.1, g3.2.2.2.1, g3.2.2.2.2.1, g3.2.2.2.2.2.1, g3.2.2.2.2.2.2.1, ())))
    else (
      LoopW (γ := prodL [.int .i64, .int .i64, .sl .flt, .sl .i64, .int .i64, .sl .flt, .sl .i64]) (fun W8 g7 =>
    bif decide (g7.1 < (g7.2.2.2.1.length : Int)) then (
      At g7.2.2.2.1 g7.1 fun u9 =>
    At g7.2.2.2.2.2.2.1 g7.1 fun u10 =>
    bif !decide (u9 = u10) then (
      K (.bool false) [])
    else (
      W8 (IntKind.i64.wrap (g7.1 + 1), g7.2.1, g7.2.2.1, g7.2.2.2.1, g7.2.2.2.2.1, g7.2.2.2.2.2.1, g7.2.2.2.2.2.2.1, ())))
    else (
      K (.bool true) [])) (0, g3.2.1, g3.2.2.1, g3.2.2.2.1, g3.2.2.2.2.1, g3.2.2.2.2.2.1, g3.2.2.2.2.2.2.1, ()))) (0, g1.2.1, g1.2.2.1, g1.2.2.2.1, g1.2.2.2.2.1, g1.2.2.2.2.2.1, g1.2.2.2.2.2.2.1, ())));
  bif !decide (g.1 = g.2.2.2.1) then (
    J2 (true, g.1, g.2.1, g.2.2.1, g.2.2.2.1, g.2.2.2.2.1, g.2.2.2.2.2.1, ()))
  else (
    bif !decide ((g.2.1.length : Int) = (g.2.2.2.2.1.length : Int)) then (
      J2 (true, g.1, g.2.1, g.2.2.1, g.2.2.2.1, g.2.2.2.2.1, g.2.2.2.2.2.1, ()))
    else (
      J2 (!decide ((g.2.2.1.length : Int) = (g.2.2.2.2.2.1.length : Int)), g.1, g.2.1, g.2.2.1, g.2.2.2.1, g.2.2.2.2.1, g.2.2.2.2.2.1, ())))
theorem F16_eq (g : prodL L16) (K X : Kn) : F16 g K = dfun D (gamX [] []) (isRaw []) H16 J16 66 [.tmp 4] (codeOf Try.f16) (argsT S16 L16 g) [] (settle0 K) X := by kernel_rfl
theorem F16_ok (g : prodL L16) (K X : Kn) (h : F16 g K) : FCalls Try.prog 16 (argsT S16 L16 g) [] K X :=
  FCalls.settle0 (dfun_sound (Γ := gamX [] []) (mu := isRaw []) (H := H16) (J := J16) D_ok (gamX_ok (rs := []) (l := []) (fun p hp => by cases hp) (fun p hp => by cases hp)) gamX_det rfl Try.func16 (c := codeOf Try.f16) rfl Try.ntmps16 Try.results16 (by unfold enters; rw [Try.func16]; kernel_rfl) (Nat.le_of_ble_eq_true (by kernel_rfl)) (X := X) (c0 := 0) (by rw [F16_eq g K X] at h; exact h))
end Go.Proofs.Ythjikjhddddplaa
