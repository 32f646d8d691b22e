import Derived.Test.YtofjpelbjehddaaDoorQ1
/- What functions come to: printed by exf.py. -/
namespace Go.Proofs.YtofjpelbjehddaaDoor
set_option linter.unusedVariables false
set_option linter.unusedSimpArgs false
set_option linter.unusedSectionVars false
open Go.RowKit
attribute [local irreducible] dfun dround
/-- quilt/arq.Offer -/
def H11 : List (Nat × Hint) := []
def J11 : List (Nat × Hint) := []
abbrev S11 : List Sh := [.ag [.leaf, .leaf, .leaf, .leaf], .leaf]
abbrev L11 : List Lf := [.int .i64, .int .i64, .sl .str, .sl .i64, .str]
def F11 (g : prodL L11) (K : Kn) : Prop :=
  sp27.pre (g.1, g.2.1, g.2.2.1, g.2.2.2.1, ()) ∧
  bif !decide (Snd.err ⟨g.1, g.2.1, g.2.2.1, g.2.2.2.1⟩ = 0) then (
    K (.tu [.ag [.int .i64 0, .int .i64 0, .nil, .nil], .int .i64 1]) [])
  else (
    bif decide (65472 < (g.2.2.2.2.1.size : Int)) then (
      K (.tu [.ag [.int .i64 0, .int .i64 0, .nil, .nil], .int .i64 4]) [])
    else (
      bif decide ((g.2.2.1.length : Int) = 1000) then (
        K (.tu [.ag [.int .i64 0, .int .i64 0, .nil, .nil], .int .i64 17]) [])
      else (
        bif decide (IntKind.i64.wrap (g.1 + (g.2.2.1.length : Int)) = 1099511627776) then (
          K (.tu [.ag [.int .i64 0, .int .i64 0, .nil, .nil], .int .i64 4]) [])
        else (
          sp28.pre (g.2.2.1, ()) ∧
  Room (g.2.2.1.length + [g.2.2.2.2.1].length) 16 (
  sp29.pre (g.2.2.2.1, ()) ∧
  Room (g.2.2.2.1.length + [(-1)].length) 8 (
  K (.tu [.ag [.int .i64 g.1, .int .i64 g.2.1, .sl false .str (g.2.2.1 ++ [g.2.2.2.2.1]), .sl false .i64 (g.2.2.2.1 ++ [(-1)])], .int .i64 0]) []))))))
theorem F11_eq (g : prodL L11) (K X : Kn) : F11 g K = dfun D (gamX [] [(27, true, sp27), (28, false, sp28), (29, false, sp29)]) (isRaw []) H11 J11 45 [.cell 4 36, .tmp 5] (codeOf Tryd.f11) (argsT S11 L11 g) [] (settle0 K) X := by kernel_rfl
theorem F11_ok (g : prodL L11) (K X : Kn) (h : F11 g K) : FCalls Tryd.prog 11 (argsT S11 L11 g) [] K X :=
  FCalls.settle0 (dfun_sound (Γ := gamX [] [(27, true, sp27), (28, false, sp28), (29, false, sp29)]) (mu := isRaw []) (H := H11) (J := J11) D_ok (gamX_ok (rs := []) (l := [(27, true, sp27), (28, false, sp28), (29, false, sp29)]) (fun p hp => by cases hp) (by intro p hp; simp only [List.mem_cons, List.not_mem_nil, or_false] at hp; rcases hp with rfl | rfl | rfl <;> first | exact sp27_ok | exact sp28_ok | exact sp29_ok)) gamX_det rfl Tryd.func11 (c := codeOf Tryd.f11) rfl Tryd.ntmps11 (rs := [.cell 4 36, .tmp 5]) Tryd.results11 (by unfold enters; rw [Tryd.func11]; kernel_rfl) (Nat.le_of_ble_eq_true (by kernel_rfl)) (X := X) (c0 := 0) (Eq.mp (F11_eq g K X) h))
/-- quilt/arq.Acknowledge -/
def H13 : List (Nat × Hint) := []
def J13 : List (Nat × Hint) := [(11, ⟨[((2, []), none), ((3, []), none), ((4, []), none)], [(2, .pt 0 0), (3, .pt 1 0), (4, .pt 2 0), (6, .leaf), (41, .leaf)], [.cells [.leaf, .leaf, .leaf, .leaf], .cells [.leaf, .leaf, .leaf], .cells [.leaf, .leaf, .nil, .nil]], [.int .i64, .bool, .int .i64, .int .i64, .sl .str, .sl .i64, .bool, .int .i64, .str, .int .i64, .int .i64]⟩)]
abbrev S13 : List Sh := [.ag [.leaf, .leaf, .leaf, .leaf], .ag [.leaf, .leaf, .leaf]]
abbrev L13 : List Lf := [.int .i64, .int .i64, .sl .str, .sl .i64, .bool, .int .i64, .str]
def F13_J2 (K : Kn) (n_1 : Int) (t_1 : Bool) (s1_1 : Int) (s2_1 : Int) (s3_1 : List ByteArray) (s4_1 : List Int) (f1_1 : Bool) (f2_1 : Int) (f3_1 : ByteArray) (t1_1 : Int) (t2_1 : Int) : Prop :=
  bif t_1 then (
    K (.tu [.ag [.int .i64 0, .int .i64 0, .nil, .nil], .int .i64 2]) [])
  else (
    (0 : Int) ≤ n_1 ∧ n_1 ≤ (s3_1.length : Int) ∧
  sp28.pre (s3_1.drop n_1.toNat, ()) ∧
  (0 : Int) ≤ n_1 ∧ n_1 ≤ (s4_1.length : Int) ∧
  sp29.pre (s4_1.drop n_1.toNat, ()) ∧
  K (.tu [.ag [.int .i64 f2_1, .int .i64 s2_1, .sl false .str (s3_1.drop n_1.toNat), .sl false .i64 (s4_1.drop n_1.toNat)], .int .i64 0]) [])
def F13 (g : prodL L13) (K : Kn) : Prop :=
  sp27.pre (g.1, g.2.1, g.2.2.1, g.2.2.2.1, ()) ∧
  bif !decide (Snd.err ⟨g.1, g.2.1, g.2.2.1, g.2.2.2.1⟩ = 0) then (
    K (.tu [.ag [.int .i64 0, .int .i64 0, .nil, .nil], .int .i64 1]) [])
  else (
    bif !g.2.2.2.2.1 then (
      K (.tu [.ag [.int .i64 0, .int .i64 0, .nil, .nil], .int .i64 8]) [])
    else (
      sp16.pre (g.2.2.2.2.1, g.2.2.2.2.2.1, g.2.2.2.2.2.2.1, ()) ∧
      bif !decide (frmErr ⟨g.2.2.2.2.1, g.2.2.2.2.2.1, g.2.2.2.2.2.2.1⟩ = 0) then (
        K (.tu [.ag [.int .i64 0, .int .i64 0, .nil, .nil], .int .i64 1]) [])
      else (
        bif decide (IntKind.i64.wrap (g.2.2.2.2.2.1 - g.1) ≤ 0) then (
    K (.tu [.ag [.int .i64 g.1, .int .i64 g.2.1, .sl false .str g.2.2.1, .sl false .i64 g.2.2.2.1], .int .i64 0]) [])
  else (
    bif decide ((g.2.2.1.length : Int) < IntKind.i64.wrap (g.2.2.2.2.2.1 - g.1)) then (
    F13_J2 K (IntKind.i64.wrap (g.2.2.2.2.2.1 - g.1)) true g.1 g.2.1 g.2.2.1 g.2.2.2.1 g.2.2.2.2.1 g.2.2.2.2.2.1 g.2.2.2.2.2.2.1 0 0)
  else (
    (0 : Int) ≤ 0 ∧ 0 ≤ IntKind.i64.wrap (g.2.2.2.2.2.1 - g.1) ∧ IntKind.i64.wrap (g.2.2.2.2.2.1 - g.1) ≤ (g.2.2.2.1.length : Int) ∧
    sp32.pre ((g.2.2.2.1.take ((IntKind.i64.wrap (g.2.2.2.2.2.1 - g.1)).toNat)).drop ((0 : Int).toNat), (-1), ()) ∧
    F13_J2 K (IntKind.i64.wrap (g.2.2.2.2.2.1 - g.1)) (decide ((-1) ∈ ((g.2.2.2.1.take ((IntKind.i64.wrap (g.2.2.2.2.2.1 - g.1)).toNat)).drop ((0 : Int).toNat)))) g.1 g.2.1 g.2.2.1 g.2.2.2.1 g.2.2.2.2.1 g.2.2.2.2.2.1 g.2.2.2.2.2.2.1 0 0)))))
theorem F13_eq (g : prodL L13) (K X : Kn) : F13 g K = dfun D (gamX [] [(27, true, sp27), (28, false, sp28), (29, false, sp29), (16, true, sp16), (32, true, sp32)]) (isRaw []) H13 J13 59 [.cell 4 36, .tmp 5] (codeOf Tryd.f13) (argsT S13 L13 g) [] (settle0 K) X := by kernel_rfl
theorem F13_ok (g : prodL L13) (K X : Kn) (h : F13 g K) : FCalls Tryd.prog 13 (argsT S13 L13 g) [] K X :=
  FCalls.settle0 (dfun_sound (Γ := gamX [] [(27, true, sp27), (28, false, sp28), (29, false, sp29), (16, true, sp16), (32, true, sp32)]) (mu := isRaw []) (H := H13) (J := J13) D_ok (gamX_ok (rs := []) (l := [(27, true, sp27), (28, false, sp28), (29, false, sp29), (16, true, sp16), (32, true, sp32)]) (fun p hp => by cases hp) (by intro p hp; simp only [List.mem_cons, List.not_mem_nil, or_false] at hp; rcases hp with rfl | rfl | rfl | rfl | rfl <;> first | exact sp27_ok | exact sp28_ok | exact sp29_ok | exact sp16_ok | exact sp32_ok)) gamX_det rfl Tryd.func13 (c := codeOf Tryd.f13) rfl Tryd.ntmps13 (rs := [.cell 4 36, .tmp 5]) Tryd.results13 (by unfold enters; rw [Tryd.func13]; kernel_rfl) (Nat.le_of_ble_eq_true (by kernel_rfl)) (X := X) (c0 := 0) (Eq.mp (F13_eq g K X) h))
end Go.Proofs.YtofjpelbjehddaaDoor

/- What functions come to: printed by exf.py. -/
namespace Go.Proofs.YtofjpelbjehddaaDoor
set_option linter.unusedVariables false
set_option linter.unusedSimpArgs false
set_option linter.unusedSectionVars false
open Go.RowKit
attribute [local irreducible] dfun dround
/-- quilt/arq.due -/
def H31 : List (Nat × Hint) := []
def J31 : List (Nat × Hint) := []
abbrev S31 : List Sh := [.ag [.leaf, .leaf, .leaf, .leaf], .leaf]
abbrev L31 : List Lf := [.int .i64, .int .i64, .sl .str, .sl .i64, .int .i64]
abbrev O31 : List ObSh := []
def F31 (g : prodL L31) (K : Kn) : Prop :=
  K (.fn 52 [] [.pt 0 0, .pt 1 0]) [some (.cells [.int .i64 g.1, .int .i64 g.2.1, .sl false .str g.2.2.1, .sl false .i64 g.2.2.2.1]), some (.cells [.int .i64 g.2.2.2.2.1])]
theorem F31_eq (g : prodL L31) (K X : Kn) : F31 g K = dfun D (gamX [] []) (isRaw []) H31 J31 6 [.tmp 4] (codeOf Tryd.f31) (argsT S31 L31 g) (storeT S31 O31 L31 g) (settleD (storeT S31 O31 L31 g).length 0 K) X 0 := by kernel_rfl
theorem F31_ok (g : prodL L31) (K X : Kn) (h : F31 g K) : FCalls Tryd.prog 31 (argsT S31 L31 g) (storeT S31 O31 L31 g) K X 0 :=
  FCalls.settleD (dfun_sound (Γ := gamX [] []) (mu := isRaw []) (H := H31) (J := J31) D_ok (gamX_ok (rs := []) (l := []) (fun p hp => by cases hp) (fun p hp => by cases hp)) gamX_det rfl Tryd.func31 (c := codeOf Tryd.f31) rfl Tryd.ntmps31 (rs := [.tmp 4]) Tryd.results31 (by unfold enters; rw [Tryd.func31]; kernel_rfl) (Nat.le_of_ble_eq_true (by kernel_rfl)) (X := X) (c0 := 0) (Eq.mp (F31_eq g K X) h))
def rw31 : Raw := ⟨S31, O31, L31, 0, fun g K _ => F31 g K⟩
theorem rw31_ok : rw31.Ok Tryd.prog 31 := fun g K X h => F31_ok g K X h
/-- a round of quilt/arq.Poll -/
def H1012007 : List (Nat × Hint) := []
def J1012007 : List (Nat × Hint) := []
abbrev S1012007 : List Sh := [.leaf, .pt 0 0, .pt 1 0, .pt 2 0, .pt 3 0]
abbrev L1012007 : List Lf := [.int .i64, .int .i64, .int .i64, .sl .str, .sl .i64, .int .i64, .sl .i64, .sl .frm]
abbrev O1012007 : List ObSh := [.cells [.leaf, .leaf, .leaf, .leaf], .cells [.leaf], .cells [.oa .i64 4], .cells [.oa .frm 5], .arr .i64, .arr .frm]
def F1012007 (g : prodL L1012007) (K : Kn) : Prop :=
  0 ≤ g.1 ∧ g.1.toNat < g.2.2.2.2.2.2.1.length ∧
  atI g.2.2.2.2.2.2.1 g.1.toNat fun x1 =>
  At g.2.2.2.1 g.1 fun u2 =>
  Room (g.2.2.2.2.2.2.2.1.length + [(⟨false, (IntKind.i64.wrap (g.2.1 + g.1)), u2⟩ : Frm)].length) 32 (
  K (.bool true) [some (.cells [.int .i64 g.2.1, .int .i64 g.2.2.1, .sl false .str g.2.2.2.1, .sl false .i64 g.2.2.2.2.1]), some (.cells [.int .i64 g.2.2.2.2.2.1]), some (.cells [.oa .i64 4 0]), some (.cells [.oa .frm 5 0]), some (.arr 0 .i64 (g.2.2.2.2.2.2.1.set g.1.toNat g.2.2.2.2.2.1)), some (.arr 0 .frm (g.2.2.2.2.2.2.2.1 ++ [(⟨false, (IntKind.i64.wrap (g.2.1 + g.1)), u2⟩ : Frm)]))])
theorem F1012007_eq (g : prodL L1012007) (K : Kn) : F1012007 g K = dround D (gamX [] []) (isRaw []) H1012007 J1012007 (rdAt Tryd.prog 1012007) [2, 3, 6, 7] (argsT S1012007 L1012007 g) (storeT S1012007 O1012007 L1012007 g) (settleD (storeT S1012007 O1012007 L1012007 g).length 0 K) 0 := by kernel_rfl
theorem F1012007_ok (g : prodL L1012007) (K X : Kn) (h : F1012007 g K) : FCalls Tryd.prog 1012007 (argsT S1012007 L1012007 g) (storeT S1012007 O1012007 L1012007 g) K X 0 :=
  FCalls.settleD (dround_ok (Γ := gamX [] []) (mu := isRaw []) (H := H1012007) (J := J1012007) D_ok (gamX_ok (rs := []) (l := []) (fun p hp => by cases hp) (fun p hp => by cases hp)) gamX_det rfl (yi := ⟨12, 7, [2, 3, 6, 7]⟩) rfl (by kernel_rfl) (by kernel_rfl) (by kernel_rfl) (by rw [F1012007_eq g K] at h; exact h))
def rw1012007 : Raw := ⟨S1012007, O1012007, L1012007, 0, fun g K _ => F1012007 g K⟩
theorem rw1012007_ok : rw1012007.Ok Tryd.prog 1012007 := fun g K X h => F1012007_ok g K X h
end Go.Proofs.YtofjpelbjehddaaDoor

/- What functions come to: printed by exf.py. -/
namespace Go.Proofs.YtofjpelbjehddaaDoor
set_option linter.unusedVariables false
set_option linter.unusedSimpArgs false
set_option linter.unusedSectionVars false
open Go.RowKit
attribute [local irreducible] dfun dround
/-- quilt/arq.due$1 -/
def H52 : List (Nat × Hint) := [(1, ⟨[((0, [3, 0]), some .frm)], [(0, .fn 1012007 [] [.pt 0 0, .pt 1 0, .pt 2 0, .pt 3 0]), (1, .pt 4 0), (2, .pt 5 0), (10, .leaf), (11, .leaf)], [.cells [.leaf, .leaf, .leaf, .leaf], .cells [.leaf], .cells [.oa .i64 6], .cells [.oa .frm 7], .cells [.leaf, .leaf, .leaf, .leaf], .cells [.leaf], .arr .i64, .arr .frm], [.int .i64, .int .i64, .int .i64, .int .i64, .sl .str, .sl .i64, .int .i64, .int .i64, .int .i64, .sl .str, .sl .i64, .int .i64, .sl .i64, .sl .frm]⟩)]
def J52 : List (Nat × Hint) := [(4, ⟨[((0, [3, 0]), none)], [(0, .fn 1012007 [] [.pt 0 0, .pt 1 0, .pt 2 0, .pt 3 0]), (1, .pt 4 0), (2, .pt 5 0), (10, .leaf), (11, .leaf)], [.cells [.leaf, .leaf, .leaf, .leaf], .cells [.leaf], .cells [.oa .i64 6], .cells [.oa .frm 7], .cells [.leaf, .leaf, .leaf, .leaf], .cells [.leaf], .arr .i64, .arr .frm], [.int .i64, .int .i64, .int .i64, .int .i64, .sl .str, .sl .i64, .int .i64, .int .i64, .int .i64, .sl .str, .sl .i64, .int .i64, .sl .i64, .sl .frm]⟩)]
abbrev S52 : List Sh := [.fn 1012007 [] [.pt 0 0, .pt 1 0, .pt 2 0, .pt 3 0], .pt 4 0, .pt 5 0]
abbrev L52 : List Lf := [.int .i64, .int .i64, .sl .str, .sl .i64, .int .i64, .int .i64, .int .i64, .sl .str, .sl .i64, .int .i64, .sl .i64]
abbrev O52 : List ObSh := [.cells [.leaf, .leaf, .leaf, .leaf], .cells [.leaf], .cells [.oa .i64 6], .cells [.nil], .cells [.leaf, .leaf, .leaf, .leaf], .cells [.leaf], .arr .i64]
def F52_J12 (K : Kn) (W2 : prodL [.int .i64, .int .i64, .int .i64, .int .i64, .sl .str, .sl .i64, .int .i64, .int .i64, .int .i64, .sl .str, .sl .i64, .int .i64, .sl .i64, .sl .frm] → Prop) (t_11 : Int) (t2_11 : Int) (o01_11 : Int) (o02_11 : Int) (o03_11 : List ByteArray) (o04_11 : List Int) (o1_11 : Int) (o41_11 : Int) (o42_11 : Int) (o43_11 : List ByteArray) (o44_11 : List Int) (o5_11 : Int) (o6_11 : List Int) (yield_11 : List Frm) : Prop :=
  W2 (t_11, IntKind.i64.wrap (t2_11 + 1), o01_11, o02_11, o03_11, o04_11, o1_11, o41_11, o42_11, o43_11, o44_11, o5_11, o6_11, yield_11, ())
def F52_B2 (K : Kn) (W2 : prodL [.int .i64, .int .i64, .int .i64, .int .i64, .sl .str, .sl .i64, .int .i64, .int .i64, .int .i64, .sl .str, .sl .i64, .int .i64, .sl .i64, .sl .frm] → Prop) (t_1 : Int) (t2_1 : Int) (o01_1 : Int) (o02_1 : Int) (o03_1 : List ByteArray) (o04_1 : List Int) (o1_1 : Int) (o41_1 : Int) (o42_1 : Int) (o43_1 : List ByteArray) (o44_1 : List Int) (o5_1 : Int) (o6_1 : List Int) (yield_1 : List Frm) : Prop :=
  bif decide (t2_1 < t_1) then (
    At o44_1 t2_1 fun u3 =>
  bif decide (u3 < 0) then (
    let g4 : prodL [.int .i64, .int .i64, .int .i64, .sl .str, .sl .i64, .int .i64, .sl .i64, .sl .frm] := (t2_1, o01_1, o02_1, o03_1, o04_1, o1_1, o6_1, yield_1, ());
    0 ≤ g4.1 ∧ g4.1.toNat < g4.2.2.2.2.2.2.1.length ∧
    atI g4.2.2.2.2.2.2.1 g4.1.toNat fun x5 =>
    At g4.2.2.2.1 g4.1 fun u6 =>
    Room (g4.2.2.2.2.2.2.2.1.length + [(⟨false, (IntKind.i64.wrap (g4.2.1 + g4.1)), u6⟩ : Frm)].length) 32 (
    F52_J12 K W2 t_1 t2_1 g4.2.1 g4.2.2.1 g4.2.2.2.1 g4.2.2.2.2.1 g4.2.2.2.2.2.1 o41_1 o42_1 o43_1 o44_1 o5_1 (g4.2.2.2.2.2.2.1.set g4.1.toNat g4.2.2.2.2.2.1) (g4.2.2.2.2.2.2.2.1 ++ [(⟨false, (IntKind.i64.wrap (g4.2.1 + g4.1)), u6⟩ : Frm)])))
  else (
    At o44_1 t2_1 fun u7 =>
    bif decide (4 ≤ IntKind.i64.wrap (o5_1 - u7)) then (
      let g8 : prodL [.int .i64, .int .i64, .int .i64, .sl .str, .sl .i64, .int .i64, .sl .i64, .sl .frm] := (t2_1, o01_1, o02_1, o03_1, o04_1, o1_1, o6_1, yield_1, ());
      0 ≤ g8.1 ∧ g8.1.toNat < g8.2.2.2.2.2.2.1.length ∧
      atI g8.2.2.2.2.2.2.1 g8.1.toNat fun x9 =>
      At g8.2.2.2.1 g8.1 fun u10 =>
      Room (g8.2.2.2.2.2.2.2.1.length + [(⟨false, (IntKind.i64.wrap (g8.2.1 + g8.1)), u10⟩ : Frm)].length) 32 (
      F52_J12 K W2 t_1 t2_1 g8.2.1 g8.2.2.1 g8.2.2.2.1 g8.2.2.2.2.1 g8.2.2.2.2.2.1 o41_1 o42_1 o43_1 o44_1 o5_1 (g8.2.2.2.2.2.2.1.set g8.1.toNat g8.2.2.2.2.2.1) (g8.2.2.2.2.2.2.2.1 ++ [(⟨false, (IntKind.i64.wrap (g8.2.1 + g8.1)), u10⟩ : Frm)])))
    else (
      F52_J12 K W2 t_1 t2_1 o01_1 o02_1 o03_1 o04_1 o1_1 o41_1 o42_1 o43_1 o44_1 o5_1 o6_1 yield_1)))
  else (
    K (.tu []) [some (.cells [.int .i64 o01_1, .int .i64 o02_1, .sl false .str o03_1, .sl false .i64 o04_1]), some (.cells [.int .i64 o1_1]), some (.cells [.oa .i64 6 0]), some (.cells [.oa .frm 7 0]), some (.cells [.int .i64 o41_1, .int .i64 o42_1, .sl false .str o43_1, .sl false .i64 o44_1]), some (.cells [.int .i64 o5_1]), some (.arr 0 .i64 o6_1), some (.arr 0 .frm yield_1)])
def F52_L2 (K : Kn) (g : prodL [.int .i64, .int .i64, .int .i64, .int .i64, .sl .str, .sl .i64, .int .i64, .int .i64, .int .i64, .sl .str, .sl .i64, .int .i64, .sl .i64, .sl .frm]) : Prop :=
  LoopW (γ := prodL [.int .i64, .int .i64, .int .i64, .int .i64, .sl .str, .sl .i64, .int .i64, .int .i64, .int .i64, .sl .str, .sl .i64, .int .i64, .sl .i64, .sl .frm]) (fun V y => F52_B2 K V y.1 y.2.1 y.2.2.1 y.2.2.2.1 y.2.2.2.2.1 y.2.2.2.2.2.1 y.2.2.2.2.2.2.1 y.2.2.2.2.2.2.2.1 y.2.2.2.2.2.2.2.2.1 y.2.2.2.2.2.2.2.2.2.1 y.2.2.2.2.2.2.2.2.2.2.1 y.2.2.2.2.2.2.2.2.2.2.2.1 y.2.2.2.2.2.2.2.2.2.2.2.2.1 y.2.2.2.2.2.2.2.2.2.2.2.2.2.1) g
def F52 (g : prodL L52) (K : Kn) : Prop :=
  F52_L2 K (if (g.2.2.2.2.2.2.2.1.length : Int) < g.2.2.2.2.2.2.1 then (g.2.2.2.2.2.2.2.1.length : Int) else g.2.2.2.2.2.2.1, 0, g.1, g.2.1, g.2.2.1, g.2.2.2.1, g.2.2.2.2.1, g.2.2.2.2.2.1, g.2.2.2.2.2.2.1, g.2.2.2.2.2.2.2.1, g.2.2.2.2.2.2.2.2.1, g.2.2.2.2.2.2.2.2.2.1, g.2.2.2.2.2.2.2.2.2.2.1, [], ())
theorem F52_eq (g : prodL L52) (K X : Kn) : F52 g K = dfun D (gamX [(1012007, rw1012007)] []) (isRaw [(1012007, rw1012007)]) H52 J52 37 [] (codeOf Tryd.f52) (argsT S52 L52 g) (storeT S52 O52 L52 g) (settleD (storeT S52 O52 L52 g).length 0 K) X 0 := by kernel_rfl
theorem F52_ok (g : prodL L52) (K X : Kn) (h : F52 g K) : FCalls Tryd.prog 52 (argsT S52 L52 g) (storeT S52 O52 L52 g) K X 0 :=
  FCalls.settleD (dfun_sound (Γ := gamX [(1012007, rw1012007)] []) (mu := isRaw [(1012007, rw1012007)]) (H := H52) (J := J52) D_ok (gamX_ok (rs := [(1012007, rw1012007)]) (l := []) (by intro p hp; simp only [List.mem_cons, List.not_mem_nil, or_false] at hp; subst hp; exact rw1012007_ok) (fun p hp => by cases hp)) gamX_det rfl Tryd.func52 (c := codeOf Tryd.f52) rfl Tryd.ntmps52 (rs := []) Tryd.results52 (by unfold enters; rw [Tryd.func52]; kernel_rfl) (Nat.le_of_ble_eq_true (by kernel_rfl)) (X := X) (c0 := 0) (Eq.mp (F52_eq g K X) h))
def rw52 : Raw := ⟨S52, O52, L52, 0, fun g K _ => F52 g K⟩
theorem rw52_ok : rw52.Ok Tryd.prog 52 := fun g K X h => F52_ok g K X h
end Go.Proofs.YtofjpelbjehddaaDoor

/- What functions come to: printed by exf.py. -/
namespace Go.Proofs.YtofjpelbjehddaaDoor
set_option linter.unusedVariables false
set_option linter.unusedSimpArgs false
set_option linter.unusedSectionVars false
open Go.RowKit
attribute [local irreducible] dfun dround
/-- quilt/arq.Poll -/
def H12 : List (Nat × Hint) := []
def J12 : List (Nat × Hint) := [(2, ⟨[((2, []), none), ((3, []), none), ((4, []), none)], [(2, .pt 0 0), (3, .pt 1 0), (4, .pt 2 0), (16, .leaf)], [.cells [.leaf, .leaf, .leaf, .leaf], .cells [.leaf], .cells [.leaf, .leaf, .nil, .nil]], [.bool, .int .i64, .int .i64, .sl .str, .sl .i64, .int .i64, .int .i64, .int .i64]⟩)]
abbrev S12 : List Sh := [.ag [.leaf, .leaf, .leaf, .leaf], .leaf]
abbrev L12 : List Lf := [.int .i64, .int .i64, .sl .str, .sl .i64, .int .i64]
def F12_J16 (K : Kn) (W6 : prodL [.int .i64, .int .i64, .int .i64, .int .i64, .sl .str, .sl .i64, .int .i64, .int .i64, .int .i64, .sl .str, .sl .i64, .int .i64, .sl .i64, .sl .frm] → Prop) (t_15 : Int) (t2_15 : Int) (o01_15 : Int) (o02_15 : Int) (o03_15 : List ByteArray) (o04_15 : List Int) (o1_15 : Int) (o41_15 : Int) (o42_15 : Int) (o43_15 : List ByteArray) (o44_15 : List Int) (o5_15 : Int) (o6_15 : List Int) (yield_15 : List Frm) : Prop :=
  W6 (t_15, IntKind.i64.wrap (t2_15 + 1), o01_15, o02_15, o03_15, o04_15, o1_15, o41_15, o42_15, o43_15, o44_15, o5_15, o6_15, yield_15, ())
def F12_B6 (K : Kn) (W6 : prodL [.int .i64, .int .i64, .int .i64, .int .i64, .sl .str, .sl .i64, .int .i64, .int .i64, .int .i64, .sl .str, .sl .i64, .int .i64, .sl .i64, .sl .frm] → Prop) (t_5 : Int) (t2_5 : Int) (o01_5 : Int) (o02_5 : Int) (o03_5 : List ByteArray) (o04_5 : List Int) (o1_5 : Int) (o41_5 : Int) (o42_5 : Int) (o43_5 : List ByteArray) (o44_5 : List Int) (o5_5 : Int) (o6_5 : List Int) (yield_5 : List Frm) : Prop :=
  bif decide (t2_5 < t_5) then (
    At o44_5 t2_5 fun u7 =>
  bif decide (u7 < 0) then (
    let g8 : prodL [.int .i64, .int .i64, .int .i64, .sl .str, .sl .i64, .int .i64, .sl .i64, .sl .frm] := (t2_5, o01_5, o02_5, o03_5, o04_5, o1_5, o6_5, yield_5, ());
    0 ≤ g8.1 ∧ g8.1.toNat < g8.2.2.2.2.2.2.1.length ∧
    atI g8.2.2.2.2.2.2.1 g8.1.toNat fun x9 =>
    At g8.2.2.2.1 g8.1 fun u10 =>
    Room (g8.2.2.2.2.2.2.2.1.length + [(⟨false, (IntKind.i64.wrap (g8.2.1 + g8.1)), u10⟩ : Frm)].length) 32 (
    F12_J16 K W6 t_5 t2_5 g8.2.1 g8.2.2.1 g8.2.2.2.1 g8.2.2.2.2.1 g8.2.2.2.2.2.1 o41_5 o42_5 o43_5 o44_5 o5_5 (g8.2.2.2.2.2.2.1.set g8.1.toNat g8.2.2.2.2.2.1) (g8.2.2.2.2.2.2.2.1 ++ [(⟨false, (IntKind.i64.wrap (g8.2.1 + g8.1)), u10⟩ : Frm)])))
  else (
    At o44_5 t2_5 fun u11 =>
    bif decide (4 ≤ IntKind.i64.wrap (o5_5 - u11)) then (
      let g12 : prodL [.int .i64, .int .i64, .int .i64, .sl .str, .sl .i64, .int .i64, .sl .i64, .sl .frm] := (t2_5, o01_5, o02_5, o03_5, o04_5, o1_5, o6_5, yield_5, ());
      0 ≤ g12.1 ∧ g12.1.toNat < g12.2.2.2.2.2.2.1.length ∧
      atI g12.2.2.2.2.2.2.1 g12.1.toNat fun x13 =>
      At g12.2.2.2.1 g12.1 fun u14 =>
      Room (g12.2.2.2.2.2.2.2.1.length + [(⟨false, (IntKind.i64.wrap (g12.2.1 + g12.1)), u14⟩ : Frm)].length) 32 (
      F12_J16 K W6 t_5 t2_5 g12.2.1 g12.2.2.1 g12.2.2.2.1 g12.2.2.2.2.1 g12.2.2.2.2.2.1 o41_5 o42_5 o43_5 o44_5 o5_5 (g12.2.2.2.2.2.2.1.set g12.1.toNat g12.2.2.2.2.2.1) (g12.2.2.2.2.2.2.2.1 ++ [(⟨false, (IntKind.i64.wrap (g12.2.1 + g12.1)), u14⟩ : Frm)])))
    else (
      F12_J16 K W6 t_5 t2_5 o01_5 o02_5 o03_5 o04_5 o1_5 o41_5 o42_5 o43_5 o44_5 o5_5 o6_5 yield_5)))
  else (
    K (.tu [.ag [.int .i64 o01_5, .int .i64 o02_5, .sl false .str o03_5, .sl false .i64 o6_5], .sl false .frm yield_5]) [])
def F12_L6 (K : Kn) (g : prodL [.int .i64, .int .i64, .int .i64, .int .i64, .sl .str, .sl .i64, .int .i64, .int .i64, .int .i64, .sl .str, .sl .i64, .int .i64, .sl .i64, .sl .frm]) : Prop :=
  LoopW (γ := prodL [.int .i64, .int .i64, .int .i64, .int .i64, .sl .str, .sl .i64, .int .i64, .int .i64, .int .i64, .sl .str, .sl .i64, .int .i64, .sl .i64, .sl .frm]) (fun V y => F12_B6 K V y.1 y.2.1 y.2.2.1 y.2.2.2.1 y.2.2.2.2.1 y.2.2.2.2.2.1 y.2.2.2.2.2.2.1 y.2.2.2.2.2.2.2.1 y.2.2.2.2.2.2.2.2.1 y.2.2.2.2.2.2.2.2.2.1 y.2.2.2.2.2.2.2.2.2.2.1 y.2.2.2.2.2.2.2.2.2.2.2.1 y.2.2.2.2.2.2.2.2.2.2.2.2.1 y.2.2.2.2.2.2.2.2.2.2.2.2.2.1) g
def F12_J2 (K : Kn) (t_1 : Bool) (s1_1 : Int) (s2_1 : Int) (s3_1 : List ByteArray) (s4_1 : List Int) (clock_1 : Int) (t1_1 : Int) (t2_1 : Int) : Prop :=
  bif t_1 then (
    K (.tu [.ag [.int .i64 s1_1, .int .i64 s2_1, .sl false .str s3_1, .sl false .i64 s4_1], .nil]) [])
  else (
    sp29.pre (s4_1, ()) ∧
  let g3 : prodL [.int .i64, .int .i64, .sl .str, .sl .i64, .int .i64] := (s1_1, s2_1, s3_1, s4_1, clock_1, ());
  let g4 : prodL [.int .i64, .int .i64, .sl .str, .sl .i64, .int .i64, .int .i64, .int .i64, .sl .str, .sl .i64, .int .i64, .sl .i64] := (s1_1, s2_1, s3_1, s4_1, clock_1, g3.1, g3.2.1, g3.2.2.1, g3.2.2.2.1, g3.2.2.2.2.1, s4_1, ());
  F12_L6 K (if (g4.2.2.2.2.2.2.2.1.length : Int) < g4.2.2.2.2.2.2.1 then (g4.2.2.2.2.2.2.2.1.length : Int) else g4.2.2.2.2.2.2.1, 0, g4.1, g4.2.1, g4.2.2.1, g4.2.2.2.1, g4.2.2.2.2.1, g4.2.2.2.2.2.1, g4.2.2.2.2.2.2.1, g4.2.2.2.2.2.2.2.1, g4.2.2.2.2.2.2.2.2.1, g4.2.2.2.2.2.2.2.2.2.1, g4.2.2.2.2.2.2.2.2.2.2.1, [], ()))
def F12 (g : prodL L12) (K : Kn) : Prop :=
  sp27.pre (g.1, g.2.1, g.2.2.1, g.2.2.2.1, ()) ∧
  bif !decide (Snd.err ⟨g.1, g.2.1, g.2.2.1, g.2.2.2.1⟩ = 0) then (
    F12_J2 K true g.1 g.2.1 g.2.2.1 g.2.2.2.1 g.2.2.2.2.1 0 0)
  else (
    sp30.pre (g.2.2.2.2.1, ()) ∧
    F12_J2 K (!(okN g.2.2.2.2.1)) g.1 g.2.1 g.2.2.1 g.2.2.2.1 g.2.2.2.2.1 0 0)
theorem F12_eq (g : prodL L12) (K X : Kn) : F12 g K = dfun D (gamX [(31, rw31), (52, rw52)] [(27, true, sp27), (29, false, sp29), (30, true, sp30)]) (isRaw [(31, rw31), (52, rw52)]) H12 J12 46 [.cell 4 36, .tmp 5] (codeOf Tryd.f12) (argsT S12 L12 g) [] (settle0 K) X 0 1012000 := by kernel_rfl
theorem F12_ok (g : prodL L12) (K X : Kn) (h : F12 g K) : FCalls Tryd.prog 12 (argsT S12 L12 g) [] K X :=
  FCalls.settle0 (dfun_sound (Γ := gamX [(31, rw31), (52, rw52)] [(27, true, sp27), (29, false, sp29), (30, true, sp30)]) (mu := isRaw [(31, rw31), (52, rw52)]) (H := H12) (J := J12) D_ok (gamX_ok (rs := [(31, rw31), (52, rw52)]) (l := [(27, true, sp27), (29, false, sp29), (30, true, sp30)]) (by intro p hp; simp only [List.mem_cons, List.not_mem_nil, or_false] at hp; rcases hp with rfl | rfl <;> first | exact rw31_ok | exact rw52_ok) (by intro p hp; simp only [List.mem_cons, List.not_mem_nil, or_false] at hp; rcases hp with rfl | rfl | rfl <;> first | exact sp27_ok | exact sp29_ok | exact sp30_ok)) gamX_det rfl Tryd.func12 (c := codeOf Tryd.f12) rfl Tryd.ntmps12 (rs := [.cell 4 36, .tmp 5]) Tryd.results12 (by unfold enters; rw [Tryd.func12]; kernel_rfl) (Nat.le_of_ble_eq_true (by kernel_rfl)) (X := X) (c0 := 0) (Eq.mp (F12_eq g K X) h) (yOk_of_keys [7] (by kernel_rfl) (by kernel_rfl)))
end Go.Proofs.YtofjpelbjehddaaDoor

/-
  Arq: what its functions yield, in plain terms, 4: NewSender, Offer, Poll, Acknowledge.
-/
namespace Go.Proofs.YtofjpelbjehddaaDoor
set_option linter.unusedVariables false
set_option linter.unusedSimpArgs false
set_option linter.unusedSectionVars false
open Go.RowKit

/-! ### Valid senders -/
structure SOk (s : Snd) : Prop where
  w1 : 1 ≤ s.window
  w2 : s.window ≤ 64
  b1 : 0 ≤ s.base
  bl : s.base + (s.data.length : Int) ≤ 1099511627776
  dl : s.data.length ≤ 1000
  sl : s.sent.length = s.data.length
  el : ∀ k (h1 : k < s.data.length) (h2 : k < s.sent.length), elemErr s.window (k : Int) s.data[k] s.sent[k] = 0
theorem elems_ok {w : Int} {data : List ByteArray} : ∀ {sent : List Int} {i : Nat}, sent.length = data.length → (elemsErr w i data sent = 0 ↔ ∀ k (h1 : k < data.length) (h2 : k < sent.length), elemErr w ((i + k : Nat) : Int) data[k] sent[k] = 0) := by
  induction data with
  | nil => intro sent i h; cases sent <;> simp_all [elemsErr]
  | cons d ds ih =>
    intro sent i h
    cases sent with
    | nil => simp at h
    | cons t ts =>
      have h' : ts.length = ds.length := by simpa using h
      show (if elemErr w i d t = 0 then elemsErr w (i + 1) ds ts else elemErr w i d t) = 0 ↔ _
      constructor
      · intro h0 k h1 h2
        by_cases e : elemErr w i d t = 0
        · rw [if_pos e] at h0
          cases k with
          | zero => exact e
          | succ k =>
            have := (ih h').1 h0 k (by simpa using h1) (by simpa using h2)
            rw [show i + 1 + k = i + (k + 1) by omega] at this
            exact this
        · rw [if_neg e] at h0; exact absurd h0 e
      · intro hk
        have e : elemErr w i d t = 0 := hk 0 (by simp) (by simp)
        rw [if_pos e]
        refine (ih h').2 fun k h1 h2 => ?_
        have := hk (k + 1) (by simpa using h1) (by simpa using h2)
        rw [show i + 1 + k = i + (k + 1) by omega]
        exact this
theorem Snd.err_iff {s : Snd} : s.err = 0 ↔ SOk s := by
  unfold Snd.err
  constructor
  · intro h
    by_cases c1 : s.window < 1 ∨ 64 < s.window ∨ okN s.base = false
    · rw [if_pos c1] at h; cases h
    rw [if_neg c1] at h
    by_cases c2 : 1000 < s.data.length
    · rw [if_pos c2] at h; cases h
    rw [if_neg c2] at h
    by_cases c3 : s.sent.length ≠ s.data.length
    · rw [if_pos c3] at h; cases h
    rw [if_neg c3] at h
    by_cases c4 : elemsErr s.window 0 s.data s.sent ≠ 0
    · rw [if_pos c4] at h; exact absurd h c4
    rw [if_neg c4] at h
    by_cases c5 : 1099511627776 < s.base + (s.data.length : Int)
    · rw [if_pos c5] at h; cases h
    have hb : okN s.base = true := by cases hh : okN s.base <;> simp_all
    have hb := of_decide_eq_true hb
    have c3 : s.sent.length = s.data.length := Decidable.not_not.1 c3
    refine ⟨by omega, by omega, hb.1, by omega, by omega, c3, fun k h1 h2 => ?_⟩
    have := (elems_ok c3).1 (Decidable.not_not.1 c4) k h1 h2
    rwa [Nat.zero_add] at this
  · rintro ⟨w1, w2, b1, bl, dl, sl, el⟩
    have hb : okN s.base = true := decide_eq_true ⟨b1, by omega⟩
    rw [if_neg (by simp [hb]; omega), if_neg (by omega), if_neg (by simp [sl])]
    have : elemsErr s.window 0 s.data s.sent = 0 := (elems_ok sl).2 fun k h1 h2 => by rw [Nat.zero_add]; exact el k h1 h2
    rw [if_neg (by simp [this]), if_neg (by omega)]
theorem elem_iff {w i : Int} {d : ByteArray} {t : Int} : elemErr w i d t = 0 ↔ d.size ≤ 65472 ∧ -1 ≤ t ∧ t ≤ 1099511627776 ∧ (w ≤ i → t = -1) := by
  unfold elemErr
  by_cases h1 : 65472 < d.size
  · rw [if_pos h1]; constructor
    · intro h; cases h
    · rintro ⟨h, _⟩; omega
  rw [if_neg h1]
  by_cases h2 : t < -1 ∨ 1099511627776 < t ∨ (w ≤ i ∧ t ≠ -1)
  · rw [if_pos h2]; constructor
    · intro h; cases h
    · rintro ⟨_, h3, h4, h5⟩
      rcases h2 with h2 | h2 | h2
      · omega
      · omega
      · exact absurd (h5 h2.1) h2.2
  · rw [if_neg h2]
    exact ⟨fun _ => ⟨by omega, by omega, by omega, fun h => by omega⟩, fun _ => rfl⟩

/-! ### What the functions come to -/
def noSnd : Snd := ⟨0, 0, [], []⟩
abbrev sndT (s : Snd) : T := .ag [.int .i64 s.base, .int .i64 s.window, .sl false .str s.data, .sl false .i64 s.sent]
abbrev sndT2 (r : Snd × Int) : T := .tu [sndT r.1, .int .i64 r.2]
abbrev pollT (r : Snd × List Frm) : T := .tu [sndT r.1, .sl false .frm r.2]
def newOf (n : Int) : Snd × Int := if n < 1 ∨ 64 < n then (noSnd, 2) else (⟨0, n, [], []⟩, 0)
def offerOf (s : Snd) (d : ByteArray) : Snd × Int :=
  if s.err ≠ 0 then (noSnd, 1) else if 65472 < d.size then (noSnd, 4) else if s.data.length = 1000 then (noSnd, 17) else if s.base + (s.data.length : Int) = 1099511627776 then (noSnd, 4) else (⟨s.base, s.window, s.data ++ [d], s.sent ++ [-1]⟩, 0)
def dueB (clock t : Int) : Bool := decide (t < 0 ∨ 4 ≤ clock - t)
def sentTo (sent : List Int) (clock : Int) (k : Nat) : List Int := sent.mapIdx fun i t => if i < k ∧ dueB clock t = true then clock else t
def framesTo (s : Snd) (clock : Int) (k : Nat) : List Frm := (List.range k).filterMap fun i => if dueB clock (s.sent.getD i 0) then some ⟨false, s.base + (i : Int), s.data.getD i ⟨#[]⟩⟩ else none
def pollN (s : Snd) : Nat := min s.window.toNat s.data.length
def pollOf (s : Snd) (clock : Int) : Snd × List Frm := if s.err ≠ 0 ∨ okN clock = false then (s, []) else (⟨s.base, s.window, s.data, sentTo s.sent clock (pollN s)⟩, framesTo s clock (pollN s))
def ackOf (s : Snd) (f : Frm) : Snd × Int :=
  if s.err ≠ 0 then (noSnd, 1) else if f.ack = false then (noSnd, 8) else if frmErr f ≠ 0 then (noSnd, 1) else if f.number - s.base ≤ 0 then (s, 0) else
  if (s.data.length : Int) < f.number - s.base ∨ -1 ∈ s.sent.take (f.number - s.base).toNat then (noSnd, 2) else
  (⟨f.number, s.window, s.data.drop (f.number - s.base).toNat, s.sent.drop (f.number - s.base).toNat⟩, 0)
theorem wk_snd {K : Kn} {n w e : Int} (h : K (sndT2 (⟨n, w, [], []⟩, e)) []) : wkK K (.tu [.ag [.int .i64 n, .int .i64 w, .nil, .nil], .int .i64 e]) [] :=
  ⟨_, .tu (.cons (.ag (.cons (.refl _) (.cons (.refl _) (.cons (.nil .str) (.cons (.nil .i64) .nil))))) (.cons (.refl _) .nil)), h⟩
theorem wk_poll {K : Kn} {s : Snd} (h : K (pollT (s, [])) []) : wkK K (.tu [sndT s, .nil]) [] :=
  ⟨_, .tu (.cons (.refl _) (.cons (.nil .frm) .nil)), h⟩
/-! ### NewSender, Offer -/
theorem F10_is {n : Int} {K : Kn} (h : K (sndT2 (newOf n)) []) : F10 (n, ()) (wkK K) := by
  unfold F10 F10_J2
  unfold newOf at h
  dsimp only [Lf.ty, prodL]
  by_cases h1 : n < 1
  · rw [decide_eq_true h1, cond_true, cond_true]
    rw [if_pos (.inl h1)] at h; exact wk_snd h
  rw [decide_eq_false h1, cond_false]
  by_cases h2 : 64 < n
  · rw [decide_eq_true h2, cond_true]
    rw [if_pos (.inr h2)] at h; exact wk_snd h
  · rw [decide_eq_false h2, cond_false]
    rw [if_neg (by omega)] at h; exact wk_snd h
def sp10 : Sp := ⟨S10, L10, fun _ => True, fun g => sndT2 (newOf g.1), fun _ => none⟩
theorem sp10_ok : sp10.Ok Tryd.prog 10 false :=
  ⟨fun _ _ X _ h => FCalls.weak (F10_ok _ _ X (F10_is h)), fun _ _ _ => rfl, fun _ => rfl, fun h => by cases h⟩
theorem F11_is {s : Snd} {d : ByteArray} {K : Kn} (h : K (sndT2 (offerOf s d)) []) : F11 (s.base, s.window, s.data, s.sent, d, ()) (wkK K) := by
  obtain ⟨b, w, data, sent⟩ := s
  unfold F11
  unfold offerOf at h
  dsimp only [Lf.ty, prodL] at h ⊢
  refine ⟨trivial, ?_⟩
  by_cases he : Snd.err ⟨b, w, data, sent⟩ = 0
  case neg =>
    rw [if_pos he] at h
    rw [decide_eq_false he, Bool.not_false, cond_true]; exact wk_snd h
  rw [if_neg (by simp [he])] at h
  rw [decide_eq_true he, Bool.not_true, cond_false]
  obtain ⟨w1, w2, b1, bl, dl, sl, -⟩ := Snd.err_iff.1 he
  dsimp only at w1 w2 b1 bl dl sl
  by_cases h1 : 65472 < d.size
  · rw [if_pos h1] at h
    rw [show decide (65472 < (d.size : Int)) = true by simp; omega, cond_true]; exact wk_snd h
  rw [if_neg h1] at h
  rw [show decide (65472 < (d.size : Int)) = false by simp; omega, cond_false]
  by_cases h2 : data.length = 1000
  · rw [if_pos h2] at h
    rw [show decide ((data.length : Int) = 1000) = true by simp; omega, cond_true]; exact wk_snd h
  rw [if_neg h2] at h
  rw [show decide ((data.length : Int) = 1000) = false by simp; omega, cond_false, wrap64Q (by omega) (by omega)]
  by_cases h3 : b + (data.length : Int) = 1099511627776
  · rw [if_pos h3] at h
    rw [decide_eq_true h3, cond_true]; exact wk_snd h
  rw [if_neg h3] at h
  rw [decide_eq_false h3, cond_false]
  exact ⟨by show data.length ≤ 4294967296; omega, ⟨by simp only [List.length_singleton]; omega, by show sent.length ≤ 4294967296; omega, by simp only [List.length_singleton]; omega, wkK.same h⟩⟩
def sp11 : Sp := ⟨S11, L11, fun _ => True, fun g => sndT2 (offerOf ⟨g.1, g.2.1, g.2.2.1, g.2.2.2.1⟩ g.2.2.2.2.1), fun _ => none⟩
theorem sp11_ok : sp11.Ok Tryd.prog 11 false :=
  ⟨fun g _ X _ h => FCalls.weak (F11_ok _ _ X (F11_is (s := ⟨g.1, g.2.1, g.2.2.1, g.2.2.2.1⟩) h)), fun _ _ _ => rfl, fun _ => rfl, fun h => by cases h⟩
/-! ### Poll -/
theorem sentTo_len {sent : List Int} {c : Int} {k : Nat} : (sentTo sent c k).length = sent.length := by simp [sentTo]
theorem sentTo_zero {sent : List Int} {c : Int} : sentTo sent c 0 = sent := by
  unfold sentTo
  refine List.ext_getElem (by simp) fun i h1 h2 => by simp
theorem sentTo_get {sent : List Int} {c : Int} {k n : Nat} (h : n < sent.length) : (sentTo sent c k)[n]'(by rw [sentTo_len]; exact h) = if n < k ∧ dueB c sent[n] = true then c else sent[n] := by
  unfold sentTo
  simp
theorem sentTo_succ {sent : List Int} {c : Int} {n : Nat} (h : n < sent.length) : sentTo sent c (n + 1) = if dueB c sent[n] then (sentTo sent c n).set n c else sentTo sent c n := by
  cases hd : dueB c sent[n]
  · refine List.ext_getElem (by simp [sentTo_len]) fun i h1 h2 => ?_
    rw [sentTo_len] at h1
    simp only [Bool.false_eq_true, if_false]
    rw [sentTo_get h1, sentTo_get h1]
    by_cases hi : i = n
    · subst hi; simp [hd]
    · simp [show i < n + 1 ↔ i < n by omega]
  · refine List.ext_getElem (by simp [sentTo_len]) fun i h1 h2 => ?_
    rw [sentTo_len] at h1
    simp only [if_true]
    rw [List.getElem_set, sentTo_get h1]
    by_cases hi : n = i
    · subst hi; simp [hd]
    · rw [if_neg hi, sentTo_get h1]; simp [show i < n + 1 ↔ i < n by omega]
theorem framesTo_succ {s : Snd} {c : Int} {n : Nat} (h1 : n < s.data.length) (h2 : n < s.sent.length) : framesTo s c (n + 1) = if dueB c s.sent[n] then framesTo s c n ++ [(⟨false, s.base + (n : Int), s.data[n]⟩ : Frm)] else framesTo s c n := by
  unfold framesTo
  rw [List.range_succ, List.filterMap_append]
  cases hd : dueB c s.sent[n] <;> simp [List.getD_eq_getElem?_getD, h1, h2, hd]
theorem framesTo_len {s : Snd} {c : Int} {n : Nat} : (framesTo s c n).length ≤ n := by
  unfold framesTo
  exact Nat.le_trans (List.length_filterMap_le _ _) (by simp)
theorem sent_in {s : Snd} (h : SOk s) {n : Nat} (hn : n < s.sent.length) : -1 ≤ s.sent[n] ∧ s.sent[n] ≤ 1099511627776 := by
  have := elem_iff.1 (h.el n (by rw [← h.sl]; exact hn) hn)
  exact ⟨this.2.1, this.2.2.1⟩
theorem atI_of {α : Type} {l : List α} {n : Nat} {x : α} {K : α → Prop} (h : l[n]? = some x) (hK : K x) : 0 ≤ (n : Int) ∧ (n : Int).toNat < l.length ∧ atI l (n : Int).toNat K :=
  ⟨Int.natCast_nonneg _, by rw [Int.toNat_natCast]; exact (List.getElem?_eq_some_iff.1 h).1, x, by rw [Int.toNat_natCast]; exact h, hK⟩
theorem F12_is {s : Snd} {c : Int} {K : Kn} (h : K (pollT (pollOf s c)) []) : F12 (s.base, s.window, s.data, s.sent, c, ()) (wkK K) := by
  obtain ⟨b, w, data, sent⟩ := s
  unfold F12 F12_J2
  unfold pollOf at h
  dsimp only [Lf.ty, prodL] at h ⊢
  refine ⟨trivial, ?_⟩
  by_cases he : Snd.err ⟨b, w, data, sent⟩ = 0
  case neg =>
    rw [if_pos (.inl he)] at h
    rw [decide_eq_false he, Bool.not_false, cond_true, cond_true]; exact wk_poll h
  rw [decide_eq_true he, Bool.not_true, cond_false]
  refine ⟨trivial, ?_⟩
  cases hc : okN c
  · rw [if_pos (.inr hc)] at h
    rw [Bool.not_false, cond_true]; exact wk_poll h
  rw [if_neg (by simp [he, hc])] at h
  rw [Bool.not_true, cond_false]
  have ok := Snd.err_iff.1 he
  obtain ⟨w1, w2, b1, bl, dl, sl, -⟩ := id ok
  dsimp only at w1 w2 b1 bl dl sl
  have hc := of_decide_eq_true hc
  refine ⟨by show sent.length ≤ 4294967296; omega, ?_⟩
  have hN : (if (data.length : Int) < w then (data.length : Int) else w) = ((pollN ⟨b, w, data, sent⟩ : Nat) : Int) := by
    unfold pollN; dsimp only; split <;> omega
  rw [hN]
  have hle : pollN ⟨b, w, data, sent⟩ ≤ data.length := Nat.min_le_right _ _
  unfold F12_L6
  generalize hNN : pollN ⟨b, w, data, sent⟩ = N at *
  refine LoopW.countTo N (fun n => ((N : Int), (n : Int), b, w, data, sent, c, b, w, data, sent, c, sentTo sent c n, framesTo ⟨b, w, data, sent⟩ c n, ())) (fun _ => True) (by rw [sentTo_zero]; rfl) (fun n hn _ W hW => ?_) trivial
  dsimp only
  unfold F12_B6 F12_J16
  by_cases hlt : n < N
  · rw [show decide ((n : Int) < (N : Int)) = true by simp; omega, cond_true]
    have hd : n < data.length := by omega
    have hs : n < sent.length := by omega
    have hl : n < (sentTo sent c n).length := by rw [sentTo_len]; exact hs
    obtain ⟨s1, s2⟩ := sent_in ok hs
    dsimp only at s1 s2
    have hW := hW hlt trivial
    rw [sentTo_succ hs, framesTo_succ hd hs] at hW
    dsimp only at hW
    have hR : Room ((framesTo ⟨b, w, data, sent⟩ c n).length + 1) 32 True := ⟨by have := framesTo_len (s := ⟨b, w, data, sent⟩) (c := c) (n := n); omega, trivial⟩
    refine At_ofQ hs ?_
    by_cases h0 : sent[n] < 0
    · rw [decide_eq_true h0, cond_true]
      rw [show dueB c sent[n] = true from decide_eq_true (.inl h0), if_pos rfl, if_pos rfl] at hW
      dsimp only [Lf.ty, prodL]
      refine atI_of (List.getElem?_eq_getElem hl) (At_ofQ hd ⟨hR.1, ?_⟩)
      rw [wrap64Q (n := b + (n : Int)) (by omega) (by omega), wrapSQ hlt (by omega), Int.toNat_natCast]
      exact hW
    · rw [decide_eq_false h0, cond_false]
      refine At_ofQ hs ?_
      rw [wrap64Q (n := c - sent[n]) (by omega) (by omega)]
      by_cases h4 : 4 ≤ c - sent[n]
      · rw [decide_eq_true h4, cond_true]
        rw [show dueB c sent[n] = true from decide_eq_true (.inr h4), if_pos rfl, if_pos rfl] at hW
        dsimp only [Lf.ty, prodL]
        refine atI_of (List.getElem?_eq_getElem hl) (At_ofQ hd ⟨hR.1, ?_⟩)
        rw [wrap64Q (n := b + (n : Int)) (by omega) (by omega), wrapSQ hlt (by omega), Int.toNat_natCast]
        exact hW
      · rw [decide_eq_false h4, cond_false]
        rw [show dueB c sent[n] = false from decide_eq_false (by omega), if_neg (by decide), if_neg (by decide)] at hW
        rw [wrapSQ hlt (by omega)]
        exact hW
  · have : n = N := by omega
    subst this
    rw [show decide ((n : Int) < (n : Int)) = false by simp, cond_false]
    exact wkK.same h
def sp12 : Sp := ⟨S12, L12, fun _ => True, fun g => pollT (pollOf ⟨g.1, g.2.1, g.2.2.1, g.2.2.2.1⟩ g.2.2.2.2.1), fun _ => none⟩
theorem sp12_ok : sp12.Ok Tryd.prog 12 false :=
  ⟨fun g _ X _ h => FCalls.weak (F12_ok _ _ X (F12_is (s := ⟨g.1, g.2.1, g.2.2.1, g.2.2.2.1⟩) h)), fun _ _ _ => rfl, fun _ => rfl, fun h => by cases h⟩
/-! ### Acknowledge -/
theorem F13_is {s : Snd} {f : Frm} {K : Kn} (h : K (sndT2 (ackOf s f)) []) : F13 (s.base, s.window, s.data, s.sent, f.ack, f.number, f.data, ()) (wkK K) := by
  obtain ⟨b, w, data, sent⟩ := s
  obtain ⟨a, m, d⟩ := f
  unfold F13 F13_J2
  unfold ackOf at h
  dsimp only [Lf.ty, prodL] at h ⊢
  refine ⟨trivial, ?_⟩
  by_cases he : Snd.err ⟨b, w, data, sent⟩ = 0
  case neg =>
    rw [if_pos he] at h
    rw [decide_eq_false he, Bool.not_false, cond_true]; exact wk_snd h
  rw [if_neg (by simp [he])] at h
  rw [decide_eq_true he, Bool.not_true, cond_false]
  cases a
  · rw [if_pos rfl] at h
    rw [Bool.not_false, cond_true]; exact wk_snd h
  rw [if_neg (by decide)] at h
  rw [Bool.not_true, cond_false]
  refine ⟨trivial, ?_⟩
  by_cases hf : frmErr ⟨true, m, d⟩ = 0
  case neg =>
    rw [if_pos hf] at h
    rw [decide_eq_false hf, Bool.not_false, cond_true]; exact wk_snd h
  rw [if_neg (by simp [hf])] at h
  rw [decide_eq_true hf, Bool.not_true, cond_false]
  obtain ⟨w1, w2, b1, bl, dl, sl, -⟩ := Snd.err_iff.1 he
  dsimp only at w1 w2 b1 bl dl sl
  have hm : 0 ≤ m ∧ m ≤ 1099511627776 := by
    unfold frmErr at hf
    cases hk : okN m
    · simp [hk] at hf
    · exact of_decide_eq_true hk
  rw [wrap64Q (by omega) (by omega)]
  by_cases h1 : m - b ≤ 0
  · rw [if_pos h1] at h
    rw [decide_eq_true h1, cond_true]; exact wkK.same h
  rw [if_neg h1] at h
  rw [decide_eq_false h1, cond_false]
  by_cases h2 : (data.length : Int) < m - b
  · rw [if_pos (.inl h2)] at h
    rw [decide_eq_true h2, cond_true, cond_true]; exact wk_snd h
  rw [decide_eq_false h2, cond_false]
  refine ⟨by decide, by omega, by omega, by show (List.drop _ (List.take _ _)).length ≤ 4294967296; rw [List.length_drop, List.length_take]; omega, ?_⟩
  rw [Int.toNat_zero, List.drop_zero]
  by_cases h3 : -1 ∈ sent.take (m - b).toNat
  · rw [if_pos (.inr h3)] at h
    rw [decide_eq_true h3, cond_true]; exact wk_snd h
  rw [if_neg (by simp only [h2, h3, or_self, not_false_eq_true])] at h
  rw [decide_eq_false h3, cond_false]
  exact ⟨by omega, by omega, by show (data.drop _).length ≤ 4294967296; rw [List.length_drop]; omega, by omega, by omega, by show (sent.drop _).length ≤ 4294967296; rw [List.length_drop]; omega, wkK.same h⟩
def sp13 : Sp := ⟨S13, L13, fun _ => True, fun g => sndT2 (ackOf ⟨g.1, g.2.1, g.2.2.1, g.2.2.2.1⟩ ⟨g.2.2.2.2.1, g.2.2.2.2.2.1, g.2.2.2.2.2.2.1⟩), fun _ => none⟩
theorem sp13_ok : sp13.Ok Tryd.prog 13 false :=
  ⟨fun g _ X _ h => FCalls.weak (F13_ok _ _ X (F13_is (s := ⟨g.1, g.2.1, g.2.2.1, g.2.2.2.1⟩) (f := ⟨g.2.2.2.2.1, g.2.2.2.2.2.1, g.2.2.2.2.2.2.1⟩) h)), fun _ _ _ => rfl, fun _ => rfl, fun h => by cases h⟩
end Go.Proofs.YtofjpelbjehddaaDoor

/- What functions come to: printed by exf.py. -/
namespace Go.Proofs.YtofjpelbjehddaaDoor
set_option linter.unusedVariables false
set_option linter.unusedSimpArgs false
set_option linter.unusedSectionVars false
open Go.RowKit
attribute [local irreducible] dfun dround
/-- slices.Grow[[]bool,bool] -/
def H54 : List (Nat × Hint) := []
def J54 : List (Nat × Hint) := []
abbrev S54 : List Sh := [.fsl .boo, .leaf]
abbrev L54 : List Lf := [.sl .boo, .int .i64]
def F54 (g : prodL L54) (K : Kn) : Prop :=
  bif decide (g.2.1 < 0) then (
    False)
  else (
    bif decide (0 < IntKind.i64.wrap (g.2.1 - (IntKind.i64.wrap ((g.1.length : Int) - (g.1.length : Int))))) then (
    (0 : Int) ≤ 0 ∧ 0 ≤ (g.1.length : Int) ∧ (g.1.length : Int) ≤ (g.1.length : Int) ∧
    bif decide ((g.1.length : Int) = (g.1.length : Int)) then (
      Need (0 < IntKind.i64.wrap (g.2.1 - (IntKind.i64.wrap ((g.1.length : Int) - (g.1.length : Int))))) (Room (((g.1.take ((g.1.length : Int).toNat)).drop ((0 : Int).toNat)).length + (IntKind.i64.wrap (g.2.1 - (IntKind.i64.wrap ((g.1.length : Int) - (g.1.length : Int))))).toNat) 1 (
      (0 : Int) ≤ 0 ∧ 0 ≤ (g.1.length : Int) ∧ (g.1.length : Int) ≤ ((((g.1.take ((g.1.length : Int).toNat)).drop ((0 : Int).toNat)) ++ List.replicate (IntKind.i64.wrap (g.2.1 - (IntKind.i64.wrap ((g.1.length : Int) - (g.1.length : Int))))).toNat (false : Bool)).length : Int) ∧
      K (.os .boo 0 0 ((0 : Int).toNat) ((g.1.length : Int).toNat - (0 : Int).toNat)) [some (.arr 0 .boo (((g.1.take ((g.1.length : Int).toNat)).drop ((0 : Int).toNat)) ++ List.replicate (IntKind.i64.wrap (g.2.1 - (IntKind.i64.wrap ((g.1.length : Int) - (g.1.length : Int))))).toNat (false : Bool)))])))
    else (
      False))
  else (
    K (.sl true .boo g.1) []))
theorem F54_eq (g : prodL L54) (K X : Kn) : F54 g K = dfun D (gamX [] []) (isRaw []) H54 J54 27 [.tmp 4] (codeOf Tryd.f54) (argsT S54 L54 g) [] (settleR (virtR .boo K)) (fun _ _ => False) := by kernel_rfl
theorem F54_ok (g : prodL L54) (K X : Kn) (h : F54 g K) : FCalls Tryd.prog 54 (argsT S54 L54 g) [] K X :=
  FCalls.noX (FCalls.virtR (FCalls.settleR (dfun_sound (Γ := gamX [] []) (mu := isRaw []) (H := H54) (J := J54) D_ok (gamX_ok (rs := []) (l := []) (fun p hp => by cases hp) (fun p hp => by cases hp)) gamX_det rfl Tryd.func54 (c := codeOf Tryd.f54) rfl Tryd.ntmps54 (rs := [.tmp 4]) Tryd.results54 (by unfold enters; rw [Tryd.func54]; kernel_rfl) (Nat.le_of_ble_eq_true (by kernel_rfl)) (X := (fun _ _ => False)) (c0 := 0) (Eq.mp (F54_eq g K X) h))))
/-- slices.Grow[[]string,string] -/
def H55 : List (Nat × Hint) := []
def J55 : List (Nat × Hint) := []
abbrev S55 : List Sh := [.fsl .str, .leaf]
abbrev L55 : List Lf := [.sl .str, .int .i64]
def F55 (g : prodL L55) (K : Kn) : Prop :=
  bif decide (g.2.1 < 0) then (
    False)
  else (
    bif decide (0 < IntKind.i64.wrap (g.2.1 - (IntKind.i64.wrap ((g.1.length : Int) - (g.1.length : Int))))) then (
    (0 : Int) ≤ 0 ∧ 0 ≤ (g.1.length : Int) ∧ (g.1.length : Int) ≤ (g.1.length : Int) ∧
    bif decide ((g.1.length : Int) = (g.1.length : Int)) then (
      Need (0 < IntKind.i64.wrap (g.2.1 - (IntKind.i64.wrap ((g.1.length : Int) - (g.1.length : Int))))) (Room (((g.1.take ((g.1.length : Int).toNat)).drop ((0 : Int).toNat)).length + (IntKind.i64.wrap (g.2.1 - (IntKind.i64.wrap ((g.1.length : Int) - (g.1.length : Int))))).toNat) 16 (
      (0 : Int) ≤ 0 ∧ 0 ≤ (g.1.length : Int) ∧ (g.1.length : Int) ≤ ((((g.1.take ((g.1.length : Int).toNat)).drop ((0 : Int).toNat)) ++ List.replicate (IntKind.i64.wrap (g.2.1 - (IntKind.i64.wrap ((g.1.length : Int) - (g.1.length : Int))))).toNat ((⟨#[]⟩ : ByteArray) : ByteArray)).length : Int) ∧
      K (.os .str 0 0 ((0 : Int).toNat) ((g.1.length : Int).toNat - (0 : Int).toNat)) [some (.arr 0 .str (((g.1.take ((g.1.length : Int).toNat)).drop ((0 : Int).toNat)) ++ List.replicate (IntKind.i64.wrap (g.2.1 - (IntKind.i64.wrap ((g.1.length : Int) - (g.1.length : Int))))).toNat ((⟨#[]⟩ : ByteArray) : ByteArray)))])))
    else (
      False))
  else (
    K (.sl true .str g.1) []))
theorem F55_eq (g : prodL L55) (K X : Kn) : F55 g K = dfun D (gamX [] []) (isRaw []) H55 J55 27 [.tmp 4] (codeOf Tryd.f55) (argsT S55 L55 g) [] (settleR (virtR .str K)) (fun _ _ => False) := by kernel_rfl
theorem F55_ok (g : prodL L55) (K X : Kn) (h : F55 g K) : FCalls Tryd.prog 55 (argsT S55 L55 g) [] K X :=
  FCalls.noX (FCalls.virtR (FCalls.settleR (dfun_sound (Γ := gamX [] []) (mu := isRaw []) (H := H55) (J := J55) D_ok (gamX_ok (rs := []) (l := []) (fun p hp => by cases hp) (fun p hp => by cases hp)) gamX_det rfl Tryd.func55 (c := codeOf Tryd.f55) rfl Tryd.ntmps55 (rs := [.tmp 4]) Tryd.results55 (by unfold enters; rw [Tryd.func55]; kernel_rfl) (Nat.le_of_ble_eq_true (by kernel_rfl)) (X := (fun _ _ => False)) (c0 := 0) (Eq.mp (F55_eq g K X) h))))
end Go.Proofs.YtofjpelbjehddaaDoor

/-
  Arq: what its functions yield, in plain terms, 5: slices.Grow; valid receivers.
-/
namespace Go.Proofs.YtofjpelbjehddaaDoor
set_option linter.unusedVariables false
set_option linter.unusedSimpArgs false
set_option linter.unusedSectionVars false
open Go.RowKit

theorem F54_is {l : List Bool} {n : Int} {K : Kn} (hn : 0 < n) (hr : (l.length : Int) + n ≤ 4294967296) (h : K (.os .boo 0 0 0 l.length) [some (.arr 0 .boo (l ++ List.replicate n.toNat false))]) : F54 (l, n, ()) K := by
  unfold F54
  dsimp only [Lf.ty, prodL]
  have e1 : IntKind.i64.wrap ((l.length : Int) - (l.length : Int)) = 0 := by rw [Int.sub_self]; decide
  have e2 : IntKind.i64.wrap (n - 0) = n := by rw [wrap64Q (by omega) (by omega)]; omega
  have e3 : (l.take (l.length : Int).toNat).drop (0 : Int).toNat = l := by rw [Int.toNat_natCast, List.take_of_length_le (Nat.le_refl _)]; rfl
  have e4 : (l.length : Int).toNat - (0 : Int).toNat = l.length := by rw [Int.toNat_natCast]; rfl
  rw [e1, e2, e3, e4, show decide (n < 0) = false from decide_eq_false (by omega), cond_false, decide_eq_true hn, cond_true, show decide ((l.length : Int) = (l.length : Int)) = true by simp, cond_true]
  exact ⟨by decide, by omega, by omega, hn, by omega, by decide, by omega, by rw [List.length_append]; omega, h⟩
def sp54 : Sp := ⟨S54, L54, fun g => 0 < g.2.1 ∧ (g.1.length : Int) + g.2.1 ≤ 4294967296, fun g => .os .boo 0 0 0 g.1.length, fun g => some (.arr 0 .boo (g.1 ++ List.replicate g.2.1.toNat false))⟩
theorem sp54_ok : sp54.Ok Tryd.prog 54 false :=
  ⟨fun _ _ X hp h => F54_ok _ _ X (F54_is hp.1 hp.2 h), fun _ _ _ => rfl, fun _ => rfl, fun h => by cases h⟩
theorem F55_is {l : List ByteArray} {n : Int} {K : Kn} (hn : 0 < n) (hr : (l.length : Int) + n ≤ 4294967296) (h : K (.os .str 0 0 0 l.length) [some (.arr 0 .str (l ++ List.replicate n.toNat (⟨#[]⟩ : ByteArray)))]) : F55 (l, n, ()) K := by
  unfold F55
  dsimp only [Lf.ty, prodL]
  have e1 : IntKind.i64.wrap ((l.length : Int) - (l.length : Int)) = 0 := by rw [Int.sub_self]; decide
  have e2 : IntKind.i64.wrap (n - 0) = n := by rw [wrap64Q (by omega) (by omega)]; omega
  have e3 : (l.take (l.length : Int).toNat).drop (0 : Int).toNat = l := by rw [Int.toNat_natCast, List.take_of_length_le (Nat.le_refl _)]; rfl
  have e4 : (l.length : Int).toNat - (0 : Int).toNat = l.length := by rw [Int.toNat_natCast]; rfl
  rw [e1, e2, e3, e4, show decide (n < 0) = false from decide_eq_false (by omega), cond_false, decide_eq_true hn, cond_true, show decide ((l.length : Int) = (l.length : Int)) = true by simp, cond_true]
  exact ⟨by decide, by omega, by omega, hn, by omega, by decide, by omega, by rw [List.length_append]; omega, h⟩
def sp55 : Sp := ⟨S55, L55, fun g => 0 < g.2.1 ∧ (g.1.length : Int) + g.2.1 ≤ 4294967296, fun g => .os .str 0 0 0 g.1.length, fun g => some (.arr 0 .str (g.1 ++ List.replicate g.2.1.toNat (⟨#[]⟩ : ByteArray)))⟩
theorem sp55_ok : sp55.Ok Tryd.prog 55 false :=
  ⟨fun _ _ X hp h => F55_ok _ _ X (F55_is hp.1 hp.2 h), fun _ _ _ => rfl, fun _ => rfl, fun h => by cases h⟩

/-! ### Valid receivers -/
def CellOk (r : Rcv) (i : Nat) : Prop := (r.data.getD i ⟨#[]⟩).size ≤ 65472 ∧ (r.have_.getD i false = true ∨ r.data.getD i ⟨#[]⟩ = ⟨#[]⟩)
instance (r : Rcv) (i : Nat) : Decidable (CellOk r i) := by unfold CellOk; infer_instance
def ROk (r : Rcv) : Prop := okN r.next = true ∧ r.data.length = r.have_.length ∧ r.have_.length ≤ 64 ∧ (0 < r.have_.length → r.have_[0]? = some false ∧ r.have_[r.have_.length - 1]? = some true) ∧ ∀ i, i < r.have_.length → CellOk r i
instance (r : Rcv) : Decidable (ROk r) := by unfold ROk; infer_instance
def Rcv.ok (r : Rcv) : Bool := decide (ROk r)
theorem cells_loop {γ : Type} {r : Rcv} {S : Int → γ} {body : (γ → Prop) → γ → Prop} {A B : Prop}
    (h1 : ∀ (W : γ → Prop) (n : Nat) (h : n < r.have_.length), (CellOk r n → W (S ((n + 1 : Nat) : Int))) → (¬ CellOk r n → A) → body W (S (n : Int)))
    (h2 : ∀ (W : γ → Prop), B → body W (S (r.have_.length : Int))) (hA : ¬ (∀ i, i < r.have_.length → CellOk r i) → A) (hB : (∀ i, i < r.have_.length → CellOk r i) → B) : LoopW body (S 0) := by
  refine LoopW.countTo r.have_.length (fun n => S (n : Int)) (fun n => ∀ i, i < n → CellOk r i) rfl (fun n hn hp W hW => ?_) (by omega)
  by_cases hlt : n < r.have_.length
  · refine h1 W n hlt (fun hc => hW hlt fun i hi => ?_) fun hc => hA fun hall => hc (hall n hlt)
    rcases Nat.lt_succ_iff_lt_or_eq.1 hi with h3 | h3
    · exact hp i h3
    · rw [h3]; exact hc
  · have : n = r.have_.length := by omega
    subst this
    exact h2 W (hB hp)
theorem F33_is {r : Rcv} {K : Kn} (h : K (.bool r.ok) []) : F33 (r.next, r.have_, r.data, ()) K := by
  obtain ⟨nx, hv, data⟩ := r
  have ff : ¬ ROk ⟨nx, hv, data⟩ → K (.bool false) [] := fun hne => by unfold Rcv.ok at h; rwa [decide_eq_false hne] at h
  have tt : ROk ⟨nx, hv, data⟩ → K (.bool true) [] := fun hne => by unfold Rcv.ok at h; rwa [decide_eq_true hne] at h
  clear h
  unfold F33 F33_J4
  dsimp only [Lf.ty, prodL] at ff tt ⊢
  refine ⟨trivial, ?_⟩
  cases h1 : okN nx
  · rw [Bool.not_false, cond_true, cond_true]
    exact ff fun hh => by have := hh.1; rw [h1] at this; cases this
  rw [Bool.not_true, cond_false]
  by_cases h2 : data.length = hv.length
  case neg =>
    rw [show decide ((data.length : Int) = (hv.length : Int)) = false from decide_eq_false (by omega), Bool.not_false, cond_true, cond_true]
    exact ff fun hh => h2 hh.2.1
  rw [show decide ((data.length : Int) = (hv.length : Int)) = true from decide_eq_true (by omega), Bool.not_true, cond_false]
  by_cases h3 : 64 < hv.length
  · rw [show decide (64 < (hv.length : Int)) = true from decide_eq_true (by omega), cond_true, cond_true]
    exact ff fun hh => by have := hh.2.2.1; dsimp only at this; omega
  rw [show decide (64 < (hv.length : Int)) = false from decide_eq_false (by omega), cond_false]
  have loop : (0 < hv.length → hv[0]? = some false ∧ hv[hv.length - 1]? = some true) → F33_L6 K (data, (data.length : Int), 0, nx, hv, data, ()) := fun he => by
    unfold F33_L6
    refine cells_loop (r := ⟨nx, hv, data⟩) (S := fun i => (data, (data.length : Int), i, nx, hv, data, ())) (A := K (.bool false) []) (B := K (.bool true) []) (fun W n hlt hW hA => ?_) (fun W hB => ?_) (fun hne => ff fun hh => hne hh.2.2.2.2) fun hall => tt ⟨h1, h2, by show hv.length ≤ 64; omega, he, hall⟩
    · dsimp only at hlt ⊢
      have hd : n < data.length := by omega
      unfold F33_B6 F33_J10
      rw [show decide ((n : Int) < (data.length : Int)) = true from decide_eq_true (by omega), cond_true]
      refine At_ofQ hd ?_
      have e1 : data.getD n ⟨#[]⟩ = data[n] := by simp [hd]
      have e2 : hv.getD n false = hv[n] := by simp [hlt]
      unfold CellOk at hW hA
      dsimp only at hW hA
      rw [e1, e2] at hW hA
      by_cases c1 : 65472 < data[n].size
      · rw [show decide (65472 < (data[n].size : Int)) = true from decide_eq_true (by omega), cond_true, cond_true]
        exact hA fun hh => by omega
      rw [show decide (65472 < (data[n].size : Int)) = false from decide_eq_false (by omega), cond_false]
      refine At_ofQ hlt ?_
      rw [wrapSQ hd (by omega)]
      cases c2 : hv[n]
      · rw [Bool.not_false, cond_true]
        by_cases c3 : data[n] = ⟨#[]⟩
        · rw [decide_eq_true c3, Bool.not_true, cond_false]
          exact hW ⟨by omega, .inr c3⟩
        · rw [decide_eq_false c3, Bool.not_false, cond_true]
          refine hA fun hh => ?_
          rw [c2] at hh
          exact hh.2.elim (fun h => by cases h) c3
      · rw [Bool.not_true, cond_false, cond_false]
        exact hW ⟨by omega, .inl c2⟩
    · dsimp only
      unfold F33_B6
      rw [show decide ((hv.length : Int) < (data.length : Int)) = false from decide_eq_false (by omega), cond_false]
      exact hB
  by_cases h4 : hv.length = 0
  · rw [show decide (0 < (hv.length : Int)) = false from decide_eq_false (by omega), cond_false, cond_false]
    exact loop fun h => by omega
  rw [show decide (0 < (hv.length : Int)) = true from decide_eq_true (by omega), cond_true]
  have h0 : 0 < hv.length := by omega
  refine At_ofQ (n := 0) h0 ?_
  cases c1 : hv[0]
  case true =>
    rw [cond_true, cond_true]
    refine ff fun hh => ?_
    have := (hh.2.2.2.1 h0).1
    dsimp only at this
    rw [List.getElem?_eq_getElem h0, c1] at this
    cases this
  rw [cond_false]
  rw [wrap64Q (n := (hv.length : Int) - 1) (by omega) (by omega), show (hv.length : Int) - 1 = ((hv.length - 1 : Nat) : Int) by omega]
  refine At_ofQ (by omega) ?_
  cases c2 : hv[hv.length - 1]
  · rw [Bool.not_false, cond_true]
    refine ff fun hh => ?_
    have := (hh.2.2.2.1 h0).2
    dsimp only at this
    rw [List.getElem?_eq_getElem (by omega), c2] at this
    cases this
  · rw [Bool.not_true, cond_false]
    exact loop fun _ => ⟨by rw [List.getElem?_eq_getElem h0, c1], by rw [List.getElem?_eq_getElem (by omega), c2]⟩
def sp33 : Sp := ⟨S33, L33, fun _ => True, fun g => .bool (Rcv.ok ⟨g.1, g.2.1, g.2.2.1⟩), fun _ => none⟩
theorem sp33_ok : sp33.Ok Tryd.prog 33 true :=
  ⟨fun g _ X _ h => F33_ok _ _ X (F33_is (r := ⟨g.1, g.2.1, g.2.2.1⟩) h), fun _ _ _ => rfl, fun _ => rfl, fun _ _ => ⟨rfl, rfl⟩⟩
end Go.Proofs.YtofjpelbjehddaaDoor

/- What functions come to: printed by exf.py. -/
namespace Go.Proofs.YtofjpelbjehddaaDoor
set_option linter.unusedVariables false
set_option linter.unusedSimpArgs false
set_option linter.unusedSectionVars false
open Go.RowKit
attribute [local irreducible] dfun dround
/-- quilt/arq.put -/
def H34 : List (Nat × Hint) := []
def J34 : List (Nat × Hint) := []
abbrev S34 : List Sh := [.ag [.leaf, .leaf, .leaf], .leaf, .leaf]
abbrev L34 : List Lf := [.int .i64, .sl .boo, .sl .str, .int .i64, .str]
def F34 (g : prodL L34) (K : Kn) : Prop :=
  (0 : Int) ≤ 0 ∧ 0 ≤ (g.2.1.length : Int) ∧ (g.2.1.length : Int) = (g.2.1.length : Int) ∧ (g.2.1.length : Int) ≤ (g.2.1.length : Int) ∧
  (0 : Int) ≤ 0 ∧ 0 ≤ (g.2.2.1.length : Int) ∧ (g.2.2.1.length : Int) = (g.2.2.1.length : Int) ∧ (g.2.2.1.length : Int) ≤ (g.2.2.1.length : Int) ∧
  bif decide (((((g.2.1.take ((g.2.1.length : Int).toNat)).drop ((0 : Int).toNat)).length : Nat) : Int) ≤ g.2.2.2.1) then (
    sp54.pre ((g.2.1.take ((g.2.1.length : Int).toNat)).drop ((0 : Int).toNat), IntKind.i64.wrap ((IntKind.i64.wrap (g.2.2.2.1 + 1)) - ((((g.2.1.take ((g.2.1.length : Int).toNat)).drop ((0 : Int).toNat)).length : Nat) : Int)), ()) ∧
    (0 : Int) ≤ 0 ∧ 0 ≤ IntKind.i64.wrap (g.2.2.2.1 + 1) ∧ ((0 : Nat) : Int) + (IntKind.i64.wrap (g.2.2.2.1 + 1)) ≤ ((((g.2.1.take ((g.2.1.length : Int).toNat)).drop ((0 : Int).toNat)) ++ List.replicate (IntKind.i64.wrap ((IntKind.i64.wrap (g.2.2.2.1 + 1)) - ((((g.2.1.take ((g.2.1.length : Int).toNat)).drop ((0 : Int).toNat)).length : Nat) : Int))).toNat false).length : Int) ∧
    sp55.pre ((g.2.2.1.take ((g.2.2.1.length : Int).toNat)).drop ((0 : Int).toNat), IntKind.i64.wrap ((IntKind.i64.wrap (g.2.2.2.1 + 1)) - ((((g.2.2.1.take ((g.2.2.1.length : Int).toNat)).drop ((0 : Int).toNat)).length : Nat) : Int)), ()) ∧
    (0 : Int) ≤ 0 ∧ 0 ≤ IntKind.i64.wrap (g.2.2.2.1 + 1) ∧ ((0 : Nat) : Int) + (IntKind.i64.wrap (g.2.2.2.1 + 1)) ≤ ((((g.2.2.1.take ((g.2.2.1.length : Int).toNat)).drop ((0 : Int).toNat)) ++ List.replicate (IntKind.i64.wrap ((IntKind.i64.wrap (g.2.2.2.1 + 1)) - ((((g.2.2.1.take ((g.2.2.1.length : Int).toNat)).drop ((0 : Int).toNat)).length : Nat) : Int))).toNat (⟨#[]⟩ : ByteArray)).length : Int) ∧
    (0 : Int) ≤ (g.2.1.length : Int) ∧ (g.2.1.length : Int) ≤ (((IntKind.i64.wrap (g.2.2.2.1 + 1)).toNat - (0 : Int).toNat : Nat) : Int) ∧ ((0 + (0 : Int).toNat : Nat) : Int) + (((IntKind.i64.wrap (g.2.2.2.1 + 1)).toNat - (0 : Int).toNat : Nat) : Int) ≤ ((((g.2.1.take ((g.2.1.length : Int).toNat)).drop ((0 : Int).toNat)) ++ List.replicate (IntKind.i64.wrap ((IntKind.i64.wrap (g.2.2.2.1 + 1)) - ((((g.2.1.take ((g.2.1.length : Int).toNat)).drop ((0 : Int).toNat)).length : Nat) : Int))).toNat false).length : Int) ∧
    (0 : Int) ≤ (g.2.2.1.length : Int) ∧ (g.2.2.1.length : Int) ≤ (((IntKind.i64.wrap (g.2.2.2.1 + 1)).toNat - (0 : Int).toNat : Nat) : Int) ∧ ((0 + (0 : Int).toNat : Nat) : Int) + (((IntKind.i64.wrap (g.2.2.2.1 + 1)).toNat - (0 : Int).toNat : Nat) : Int) ≤ ((((g.2.2.1.take ((g.2.2.1.length : Int).toNat)).drop ((0 : Int).toNat)) ++ List.replicate (IntKind.i64.wrap ((IntKind.i64.wrap (g.2.2.2.1 + 1)) - ((((g.2.2.1.take ((g.2.2.1.length : Int).toNat)).drop ((0 : Int).toNat)).length : Nat) : Int))).toNat (⟨#[]⟩ : ByteArray)).length : Int) ∧
    0 ≤ g.2.2.2.1 ∧ g.2.2.2.1.toNat < (IntKind.i64.wrap (g.2.2.2.1 + 1)).toNat - (0 : Int).toNat ∧
  atI (clearAt (((g.2.1.take ((g.2.1.length : Int).toNat)).drop ((0 : Int).toNat)) ++ List.replicate (IntKind.i64.wrap ((IntKind.i64.wrap (g.2.2.2.1 + 1)) - ((((g.2.1.take ((g.2.1.length : Int).toNat)).drop ((0 : Int).toNat)).length : Nat) : Int))).toNat false) ((0 + (0 : Int).toNat) + (g.2.1.length : Int).toNat) ((((IntKind.i64.wrap (g.2.2.2.1 + 1)).toNat - (0 : Int).toNat : Nat) : Int).toNat - (g.2.1.length : Int).toNat) false) ((0 + (0 : Int).toNat) + g.2.2.2.1.toNat) fun x1 =>
  0 ≤ g.2.2.2.1 ∧ g.2.2.2.1.toNat < (IntKind.i64.wrap (g.2.2.2.1 + 1)).toNat - (0 : Int).toNat ∧
  atI (clearAt (((g.2.2.1.take ((g.2.2.1.length : Int).toNat)).drop ((0 : Int).toNat)) ++ List.replicate (IntKind.i64.wrap ((IntKind.i64.wrap (g.2.2.2.1 + 1)) - ((((g.2.2.1.take ((g.2.2.1.length : Int).toNat)).drop ((0 : Int).toNat)).length : Nat) : Int))).toNat (⟨#[]⟩ : ByteArray)) ((0 + (0 : Int).toNat) + (g.2.2.1.length : Int).toNat) ((((IntKind.i64.wrap (g.2.2.2.1 + 1)).toNat - (0 : Int).toNat : Nat) : Int).toNat - (g.2.2.1.length : Int).toNat) (⟨#[]⟩ : ByteArray)) ((0 + (0 : Int).toNat) + g.2.2.2.1.toNat) fun x2 =>
  K (.ag [.int .i64 g.1, .sl false .boo ((((clearAt (((g.2.1.take ((g.2.1.length : Int).toNat)).drop ((0 : Int).toNat)) ++ List.replicate (IntKind.i64.wrap ((IntKind.i64.wrap (g.2.2.2.1 + 1)) - ((((g.2.1.take ((g.2.1.length : Int).toNat)).drop ((0 : Int).toNat)).length : Nat) : Int))).toNat false) ((0 + (0 : Int).toNat) + (g.2.1.length : Int).toNat) ((((IntKind.i64.wrap (g.2.2.2.1 + 1)).toNat - (0 : Int).toNat : Nat) : Int).toNat - (g.2.1.length : Int).toNat) false).set ((0 + (0 : Int).toNat) + g.2.2.2.1.toNat) true).drop (0 + (0 : Int).toNat)).take ((IntKind.i64.wrap (g.2.2.2.1 + 1)).toNat - (0 : Int).toNat)), .sl false .str ((((clearAt (((g.2.2.1.take ((g.2.2.1.length : Int).toNat)).drop ((0 : Int).toNat)) ++ List.replicate (IntKind.i64.wrap ((IntKind.i64.wrap (g.2.2.2.1 + 1)) - ((((g.2.2.1.take ((g.2.2.1.length : Int).toNat)).drop ((0 : Int).toNat)).length : Nat) : Int))).toNat (⟨#[]⟩ : ByteArray)) ((0 + (0 : Int).toNat) + (g.2.2.1.length : Int).toNat) ((((IntKind.i64.wrap (g.2.2.2.1 + 1)).toNat - (0 : Int).toNat : Nat) : Int).toNat - (g.2.2.1.length : Int).toNat) (⟨#[]⟩ : ByteArray)).set ((0 + (0 : Int).toNat) + g.2.2.2.1.toNat) g.2.2.2.2.1).drop (0 + (0 : Int).toNat)).take ((IntKind.i64.wrap (g.2.2.2.1 + 1)).toNat - (0 : Int).toNat))]) [])
  else (
    sp36.pre ((g.2.1.take ((g.2.1.length : Int).toNat)).drop ((0 : Int).toNat), ()) ∧
    sp28.pre ((g.2.2.1.take ((g.2.2.1.length : Int).toNat)).drop ((0 : Int).toNat), ()) ∧
    0 ≤ g.2.2.2.1 ∧ g.2.2.2.1.toNat < ((g.2.1.take ((g.2.1.length : Int).toNat)).drop ((0 : Int).toNat)).length ∧
  atI ((g.2.1.take ((g.2.1.length : Int).toNat)).drop ((0 : Int).toNat)) g.2.2.2.1.toNat fun x3 =>
  0 ≤ g.2.2.2.1 ∧ g.2.2.2.1.toNat < ((g.2.2.1.take ((g.2.2.1.length : Int).toNat)).drop ((0 : Int).toNat)).length ∧
  atI ((g.2.2.1.take ((g.2.2.1.length : Int).toNat)).drop ((0 : Int).toNat)) g.2.2.2.1.toNat fun x4 =>
  K (.ag [.int .i64 g.1, .sl false .boo (((g.2.1.take ((g.2.1.length : Int).toNat)).drop ((0 : Int).toNat)).set g.2.2.2.1.toNat true), .sl false .str (((g.2.2.1.take ((g.2.2.1.length : Int).toNat)).drop ((0 : Int).toNat)).set g.2.2.2.1.toNat g.2.2.2.2.1)]) [])
theorem F34_eq (g : prodL L34) (K X : Kn) : F34 g K = dfun D (gamX [] [(28, false, sp28), (36, false, sp36), (54, false, sp54), (55, false, sp55)]) (isRaw []) H34 J34 77 [.cell 6 46] (codeOf Tryd.f34) (argsT S34 L34 g) [] (settle0 K) X := by kernel_rfl
theorem F34_ok (g : prodL L34) (K X : Kn) (h : F34 g K) : FCalls Tryd.prog 34 (argsT S34 L34 g) [] K X :=
  FCalls.settle0 (dfun_sound (Γ := gamX [] [(28, false, sp28), (36, false, sp36), (54, false, sp54), (55, false, sp55)]) (mu := isRaw []) (H := H34) (J := J34) D_ok (gamX_ok (rs := []) (l := [(28, false, sp28), (36, false, sp36), (54, false, sp54), (55, false, sp55)]) (fun p hp => by cases hp) (by intro p hp; simp only [List.mem_cons, List.not_mem_nil, or_false] at hp; rcases hp with rfl | rfl | rfl | rfl <;> first | exact sp28_ok | exact sp36_ok | exact sp54_ok | exact sp55_ok)) gamX_det rfl Tryd.func34 (c := codeOf Tryd.f34) rfl Tryd.ntmps34 (rs := [.cell 6 46]) Tryd.results34 (by unfold enters; rw [Tryd.func34]; kernel_rfl) (Nat.le_of_ble_eq_true (by kernel_rfl)) (X := X) (c0 := 0) (Eq.mp (F34_eq g K X) h))
end Go.Proofs.YtofjpelbjehddaaDoor

/-
  Arq: what its functions yield, in plain terms, 6: put.
-/
namespace Go.Proofs.YtofjpelbjehddaaDoor
set_option linter.unusedVariables false
set_option linter.unusedSimpArgs false
set_option linter.unusedSectionVars false
open Go.RowKit

def putL {α : Type} (z : α) (l : List α) (i : Nat) (x : α) : List α := (l ++ List.replicate (i + 1 - l.length) z).set i x
theorem clear_rep {α : Type} {l : List α} {n : Nat} {z : α} : clearAt (l ++ List.replicate n z) l.length n z = l ++ List.replicate n z := by
  unfold clearAt
  rw [List.take_left' rfl, List.drop_of_length_le (by simp), List.append_nil]
theorem F34_is {nx : Int} {hv : List Bool} {data : List ByteArray} {i : Nat} {d : ByteArray} {K : Kn} (hi : i ≤ 1000) (h2 : data.length = hv.length) (h3 : hv.length ≤ 64) (h : K (.ag [.int .i64 nx, .sl false .boo (putL false hv i true), .sl false .str (putL ⟨#[]⟩ data i d)]) []) : F34 (nx, hv, data, (i : Int), d, ()) K := by
  unfold F34
  unfold putL at h
  dsimp only [Lf.ty, prodL]
  have e1 : (hv.take (hv.length : Int).toNat).drop (0 : Int).toNat = hv := by rw [Int.toNat_natCast, List.take_of_length_le (Nat.le_refl _)]; rfl
  have e2 : (data.take (data.length : Int).toNat).drop (0 : Int).toNat = data := by rw [Int.toNat_natCast, List.take_of_length_le (Nat.le_refl _)]; rfl
  rw [e1, e2, wrap64Q (n := (i : Int) + 1) (by omega) (by omega)]
  rw [show (i : Int) + 1 = ((i + 1 : Nat) : Int) from rfl, Int.toNat_natCast, Int.toNat_natCast]
  refine ⟨by decide, by omega, rfl, Int.le_refl _, by decide, by omega, rfl, Int.le_refl _, ?_⟩
  rw [h2] at h ⊢
  by_cases hlt : hv.length ≤ i
  · rw [show decide ((hv.length : Int) ≤ (i : Int)) = true from decide_eq_true (by omega), cond_true]
    rw [wrap64Q (n := ((i + 1 : Nat) : Int) - (hv.length : Int)) (by omega) (by omega), show ((i + 1 : Nat) : Int) - (hv.length : Int) = ((i + 1 - hv.length : Nat) : Int) by omega, Int.toNat_natCast]
    have l1 : (hv ++ List.replicate (i + 1 - hv.length) false).length = i + 1 := by simp; omega
    have l2 : (data ++ List.replicate (i + 1 - hv.length) (⟨#[]⟩ : ByteArray)).length = i + 1 := by simp; omega
    rw [l1, l2, show i + 1 - (0 : Int).toNat = i + 1 from rfl, show 0 + (0 : Int).toNat = 0 from rfl, Nat.zero_add, Nat.zero_add, Int.toNat_natCast, Int.toNat_natCast, clear_rep]
    have c2 : clearAt (data ++ List.replicate (i + 1 - hv.length) (⟨#[]⟩ : ByteArray)) hv.length (i + 1 - hv.length) ⟨#[]⟩ = data ++ List.replicate (i + 1 - hv.length) (⟨#[]⟩ : ByteArray) := by rw [← h2]; exact clear_rep
    rw [c2]
    refine ⟨⟨(by omega : (0 : Int) < ((i + 1 - hv.length : Nat) : Int)), (by omega : (hv.length : Int) + ((i + 1 - hv.length : Nat) : Int) ≤ 4294967296)⟩, by decide, by omega, by omega, ⟨(by omega : (0 : Int) < ((i + 1 - hv.length : Nat) : Int)), (by omega : (data.length : Int) + ((i + 1 - hv.length : Nat) : Int) ≤ 4294967296)⟩, by decide, by omega, by omega, by omega, by omega, by omega, by omega, by omega, by omega, by omega, by omega, _, List.getElem?_eq_getElem (by omega), by omega, by omega, _, List.getElem?_eq_getElem (by omega), ?_⟩
    rw [List.drop_zero, List.drop_zero, List.take_of_length_le (by rw [List.length_set]; omega), List.take_of_length_le (by rw [List.length_set]; omega)]
    exact h
  · rw [show decide ((hv.length : Int) ≤ (i : Int)) = false from decide_eq_false (by omega), cond_false]
    rw [show i + 1 - hv.length = 0 by omega, List.replicate_zero, List.replicate_zero, List.append_nil, List.append_nil] at h
    exact ⟨by show hv.length ≤ 4294967296; omega, by show data.length ≤ 4294967296; omega, by omega, by omega, _, List.getElem?_eq_getElem (by omega), by omega, by omega, _, List.getElem?_eq_getElem (by omega), h⟩
def sp34 : Sp := ⟨S34, L34, fun g => (0 ≤ g.2.2.2.1 ∧ g.2.2.2.1 ≤ 1000) ∧ g.2.2.1.length = g.2.1.length ∧ g.2.1.length ≤ 64, fun g => .ag [.int .i64 g.1, .sl false .boo (putL false g.2.1 g.2.2.2.1.toNat true), .sl false .str (putL ⟨#[]⟩ g.2.2.1 g.2.2.2.1.toNat g.2.2.2.2.1)], fun _ => none⟩
theorem sp34_ok : sp34.Ok Tryd.prog 34 false :=
  ⟨fun g _ X hp h => F34_ok _ _ X (by
    obtain ⟨nx, hv, data, i, d, _⟩ := g
    obtain ⟨⟨h0, h1⟩, h2, h3⟩ := hp
    dsimp only [sp34, Lf.ty, prodL] at h0 h1 h2 h3 h ⊢
    obtain ⟨n, rfl⟩ := Int.eq_ofNat_of_zero_le h0
    exact F34_is (by omega) h2 h3 h), fun _ _ _ => rfl, fun _ => rfl, fun h => by cases h⟩
end Go.Proofs.YtofjpelbjehddaaDoor
