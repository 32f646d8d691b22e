import Derived.Test.YtofjpelbjehddaaDoorX1
/- What functions come to: printed by exf.py. -/
namespace Go.Proofs.YtofjpelbjehddaaDoor
set_option linter.unusedVariables false
set_option linter.unusedSimpArgs false
set_option linter.unusedSectionVars false
open Go.RowKit
attribute [local irreducible] dfun dround
/-- (*quilt/csexp.reader).next -/
def H71 : List (Nat × Hint) := []
def J71 : List (Nat × Hint) := []
abbrev S71 : List Sh := [.pt 0 0]
abbrev L71 : List Lf := [.str, .int .i64, .int .i64]
abbrev O71 : List ObSh := [.cells [.leaf, .leaf, .leaf]]
def F71 (g : prodL L71) (K X : Kn) : Prop :=
  bif decide (g.2.1 = (g.1.size : Int)) then (
    X (.ic 100 (.ag [.int .i64 11])) [some (.cells [.str g.1, .int .i64 g.2.1, .int .i64 g.2.2.1])])
  else (
    StrAt g.1 g.2.1 fun b1 =>
  K (.int .u8 b1) [some (.cells [.str g.1, .int .i64 g.2.1, .int .i64 g.2.2.1])])
theorem F71_eq (g : prodL L71) (K X : Kn) : F71 g K X = dfun D (gamX [] []) (isRaw []) H71 J71 24 [.tmp 2] (codeOf Tryd.f71) (argsT S71 L71 g) (storeT S71 O71 L71 g) (settleD (storeT S71 O71 L71 g).length 0 K) (settleD (storeT S71 O71 L71 g).length 0 X) 0 := by kernel_rfl
theorem F71_ok (g : prodL L71) (K X : Kn) (h : F71 g K X) : FCalls Tryd.prog 71 (argsT S71 L71 g) (storeT S71 O71 L71 g) K X 0 :=
  FCalls.settleX (FCalls.settleD (dfun_sound (Γ := gamX [] []) (mu := isRaw []) (H := H71) (J := J71) D_ok (gamX_ok (rs := []) (l := []) (fun p hp => by cases hp) (fun p hp => by cases hp)) gamX_det rfl Tryd.func71 (c := codeOf Tryd.f71) rfl Tryd.ntmps71 (rs := [.tmp 2]) Tryd.results71 (by unfold enters; rw [Tryd.func71]; kernel_rfl) (Nat.le_of_ble_eq_true (by kernel_rfl)) (X := (settleD (storeT S71 O71 L71 g).length 0 X)) (c0 := 0) (Eq.mp (F71_eq g K X) h)))
/-- (quilt/quiltref01.reader).atom -/
def H79 : List (Nat × Hint) := [(2, ⟨[((1, []), none), ((3, []), none)], [(1, .pt 0 0), (3, .pt 1 0), (4, .leaf), (5, .leaf)], [.cells [.leaf, .leaf, .leaf, .leaf], .cells [.leaf, .leaf, .leaf, .leaf]], [.int .i64, .int .i64, .str, .int .i64, .int .i64, .int .i64, .str, .int .i64, .int .i64, .int .i64]⟩)]
def J79 : List (Nat × Hint) := [(6, ⟨[((1, []), none), ((3, []), none)], [(1, .pt 0 0), (3, .pt 1 0), (4, .leaf), (5, .leaf), (60, .leaf)], [.cells [.leaf, .leaf, .leaf, .leaf], .cells [.leaf, .leaf, .leaf, .leaf]], [.int .i64, .int .i64, .bool, .str, .int .i64, .int .i64, .int .i64, .str, .int .i64, .int .i64, .int .i64]⟩), (8, ⟨[((1, []), none), ((3, []), none)], [(1, .pt 0 0), (3, .pt 1 0), (4, .leaf), (5, .leaf)], [.cells [.leaf, .leaf, .leaf, .leaf], .cells [.leaf, .leaf, .leaf, .leaf]], [.int .i64, .int .i64, .str, .int .i64, .int .i64, .int .i64, .str, .int .i64, .int .i64, .int .i64]⟩), (12, ⟨[((1, []), none), ((3, []), none)], [(1, .pt 0 0), (3, .pt 1 0), (4, .leaf), (82, .leaf)], [.cells [.leaf, .leaf, .leaf, .leaf], .cells [.leaf, .leaf, .leaf, .leaf]], [.int .i64, .bool, .str, .int .i64, .int .i64, .int .i64, .str, .int .i64, .int .i64, .int .i64]⟩)]
abbrev S79 : List Sh := [.ag [.leaf, .leaf, .leaf, .leaf]]
abbrev L79 : List Lf := [.str, .int .i64, .int .i64, .int .i64]
abbrev O79 : List ObSh := []
def F79_J12 (K : Kn) (n_11 : Int) (t_11 : Bool) (r1_11 : ByteArray) (r2_11 : Int) (r3_11 : Int) (r4_11 : Int) (t1_11 : ByteArray) (t2_11 : Int) (t3_11 : Int) (t4_11 : Int) : Prop :=
  bif t_11 then (
    K (.tu [.str (⟨#[]⟩ : ByteArray), .ag [.str r1_11, .int .i64 r2_11, .int .i64 r3_11, .int .i64 12]]) [])
  else (
    bif decide (IntKind.i64.wrap ((r1_11.size : Int) - (IntKind.i64.wrap (r2_11 + 1))) < n_11) then (
    K (.tu [.str (⟨#[]⟩ : ByteArray), .ag [.str r1_11, .int .i64 (IntKind.i64.wrap (r2_11 + 1)), .int .i64 r3_11, .int .i64 11]]) [])
  else (
    (0 : Int) ≤ IntKind.i64.wrap (r2_11 + 1) ∧ IntKind.i64.wrap (r2_11 + 1) ≤ IntKind.i64.wrap ((IntKind.i64.wrap (r2_11 + 1)) + n_11) ∧ IntKind.i64.wrap ((IntKind.i64.wrap (r2_11 + 1)) + n_11) ≤ (r1_11.size : Int) ∧
  K (.tu [.str (r1_11.extract (IntKind.i64.wrap (r2_11 + 1)).toNat (IntKind.i64.wrap ((IntKind.i64.wrap (r2_11 + 1)) + n_11)).toNat), .ag [.str r1_11, .int .i64 (IntKind.i64.wrap ((IntKind.i64.wrap (r2_11 + 1)) + n_11)), .int .i64 r3_11, .int .i64 r4_11]]) []))
def F79_J13 (K : Kn) (n_9 : Int) (begin_9 : Int) (r1_9 : ByteArray) (r2_9 : Int) (r3_9 : Int) (r4_9 : Int) (t1_9 : ByteArray) (t2_9 : Int) (t3_9 : Int) (t4_9 : Int) : Prop :=
  bif decide (r2_9 = (r1_9.size : Int)) then (
    K (.tu [.str (⟨#[]⟩ : ByteArray), .ag [.str r1_9, .int .i64 r2_9, .int .i64 r3_9, .int .i64 11]]) [])
  else (
    bif decide (r2_9 = begin_9) then (
    F79_J12 K n_9 true r1_9 r2_9 r3_9 r4_9 t1_9 t2_9 t3_9 t4_9)
  else (
    StrAt r1_9 r2_9 fun b10 =>
    F79_J12 K n_9 (!decide (b10 = 58)) r1_9 r2_9 r3_9 r4_9 t1_9 t2_9 t3_9 t4_9))
def F79_J8 (K : Kn) (W2 : prodL [.int .i64, .int .i64, .str, .int .i64, .int .i64, .int .i64, .str, .int .i64, .int .i64, .int .i64] → Prop) (n_7 : Int) (begin_7 : Int) (t_7 : Bool) (r1_7 : ByteArray) (r2_7 : Int) (r3_7 : Int) (r4_7 : Int) (t1_7 : ByteArray) (t2_7 : Int) (t3_7 : Int) (t4_7 : Int) : Prop :=
  bif t_7 then (
    K (.tu [.str (⟨#[]⟩ : ByteArray), .ag [.str r1_7, .int .i64 r2_7, .int .i64 r3_7, .int .i64 12]]) [])
  else (
    W2 (n_7, begin_7, r1_7, r2_7, r3_7, r4_7, t1_7, t2_7, t3_7, t4_7, ()))
def F79_B2 (K : Kn) (W2 : prodL [.int .i64, .int .i64, .str, .int .i64, .int .i64, .int .i64, .str, .int .i64, .int .i64, .int .i64] → Prop) (n_1 : Int) (begin_1 : Int) (r1_1 : ByteArray) (r2_1 : Int) (r3_1 : Int) (r4_1 : Int) (t1_1 : ByteArray) (t2_1 : Int) (t3_1 : Int) (t4_1 : Int) : Prop :=
  bif decide (r2_1 < (r1_1.size : Int)) then (
    StrAt r1_1 r2_1 fun b3 =>
    bif decide (48 ≤ b3) then (
      StrAt r1_1 r2_1 fun b4 =>
      bif decide (b4 ≤ 57) then (
    StrAt r1_1 r2_1 fun b5 =>
  bif decide (65536 < IntKind.i64.wrap ((IntKind.i64.wrap (n_1 * 10)) + (IntKind.i64.wrap (IntKind.u8.wrap (b5 - 48))))) then (
    F79_J8 K W2 (IntKind.i64.wrap ((IntKind.i64.wrap (n_1 * 10)) + (IntKind.i64.wrap (IntKind.u8.wrap (b5 - 48))))) begin_1 true r1_1 (IntKind.i64.wrap (r2_1 + 1)) r3_1 r4_1 t1_1 t2_1 t3_1 t4_1)
  else (
    bif decide (1 < IntKind.i64.wrap ((IntKind.i64.wrap (r2_1 + 1)) - begin_1)) then (
      StrAt r1_1 begin_1 fun b6 =>
      F79_J8 K W2 (IntKind.i64.wrap ((IntKind.i64.wrap (n_1 * 10)) + (IntKind.i64.wrap (IntKind.u8.wrap (b5 - 48))))) begin_1 (decide (b6 = 48)) r1_1 (IntKind.i64.wrap (r2_1 + 1)) r3_1 r4_1 t1_1 t2_1 t3_1 t4_1)
    else (
      F79_J8 K W2 (IntKind.i64.wrap ((IntKind.i64.wrap (n_1 * 10)) + (IntKind.i64.wrap (IntKind.u8.wrap (b5 - 48))))) begin_1 false r1_1 (IntKind.i64.wrap (r2_1 + 1)) r3_1 r4_1 t1_1 t2_1 t3_1 t4_1)))
  else (
    F79_J13 K n_1 begin_1 r1_1 r2_1 r3_1 r4_1 t1_1 t2_1 t3_1 t4_1))
    else (
      F79_J13 K n_1 begin_1 r1_1 r2_1 r3_1 r4_1 t1_1 t2_1 t3_1 t4_1))
  else (
    F79_J13 K n_1 begin_1 r1_1 r2_1 r3_1 r4_1 t1_1 t2_1 t3_1 t4_1)
def F79_L2 (K : Kn) (g : prodL [.int .i64, .int .i64, .str, .int .i64, .int .i64, .int .i64, .str, .int .i64, .int .i64, .int .i64]) : Prop :=
  LoopW (γ := prodL [.int .i64, .int .i64, .str, .int .i64, .int .i64, .int .i64, .str, .int .i64, .int .i64, .int .i64]) (fun V y => F79_B2 K V y.1 y.2.1 y.2.2.1 y.2.2.2.1 y.2.2.2.2.1 y.2.2.2.2.2.1 y.2.2.2.2.2.2.1 y.2.2.2.2.2.2.2.1 y.2.2.2.2.2.2.2.2.1 y.2.2.2.2.2.2.2.2.2.1) g
def F79 (g : prodL L79) (K : Kn) : Prop :=
  F79_L2 K (0, g.2.1, g.1, g.2.1, g.2.2.1, g.2.2.2.1, (⟨#[]⟩ : ByteArray), 0, 0, 0, ())
theorem F79_eq (g : prodL L79) (K X : Kn) : F79 g K = dfun D (gamX [] []) (isRaw []) H79 J79 115 [.tmp 2, .cell 3 109] (codeOf Tryd.f79) (argsT S79 L79 g) (storeT S79 O79 L79 g) (settle0 K) X 0 := by kernel_rfl
theorem F79_ok (g : prodL L79) (K X : Kn) (h : F79 g K) : FCalls Tryd.prog 79 (argsT S79 L79 g) (storeT S79 O79 L79 g) K X 0 :=
  FCalls.settle0 (dfun_sound (Γ := gamX [] []) (mu := isRaw []) (H := H79) (J := J79) D_ok (gamX_ok (rs := []) (l := []) (fun p hp => by cases hp) (fun p hp => by cases hp)) gamX_det rfl Tryd.func79 (c := codeOf Tryd.f79) rfl Tryd.ntmps79 (rs := [.tmp 2, .cell 3 109]) Tryd.results79 (by unfold enters; rw [Tryd.func79]; kernel_rfl) (Nat.le_of_ble_eq_true (by kernel_rfl)) (X := X) (c0 := 0) (Eq.mp (F79_eq g K X) h))
end Go.Proofs.YtofjpelbjehddaaDoor

/- What functions come to: printed by exf.py. -/
namespace Go.Proofs.YtofjpelbjehddaaDoor
set_option linter.unusedVariables false
set_option linter.unusedSimpArgs false
set_option linter.unusedSectionVars false
open Go.RowKit
attribute [local irreducible] dfun dround
/-- internal/stringslite.HasPrefix -/
def H85 : List (Nat × Hint) := []
def J85 : List (Nat × Hint) := []
abbrev S85 : List Sh := [.leaf, .leaf]
abbrev L85 : List Lf := [.str, .str]
abbrev O85 : List ObSh := []
def F85 (g : prodL L85) (K : Kn) : Prop :=
  bif decide ((g.2.1.size : Int) ≤ (g.1.size : Int)) then (
    (0 : Int) ≤ 0 ∧ 0 ≤ (g.2.1.size : Int) ∧ (g.2.1.size : Int) ≤ (g.1.size : Int) ∧
    K (.bool (decide (g.1.extract (0 : Int).toNat (g.2.1.size : Int).toNat = g.2.1))) [])
  else (
    K (.bool false) [])
theorem F85_eq (g : prodL L85) (K X : Kn) : F85 g K = dfun D (gamX [] []) (isRaw []) H85 J85 18 [.tmp 4] (codeOf Tryd.f85) (argsT S85 L85 g) (storeT S85 O85 L85 g) (settle0 K) X 0 := by kernel_rfl
theorem F85_ok (g : prodL L85) (K X : Kn) (h : F85 g K) : FCalls Tryd.prog 85 (argsT S85 L85 g) (storeT S85 O85 L85 g) K X 0 :=
  FCalls.settle0 (dfun_sound (Γ := gamX [] []) (mu := isRaw []) (H := H85) (J := J85) D_ok (gamX_ok (rs := []) (l := []) (fun p hp => by cases hp) (fun p hp => by cases hp)) gamX_det rfl Tryd.func85 (c := codeOf Tryd.f85) rfl Tryd.ntmps85 (rs := [.tmp 4]) Tryd.results85 (by unfold enters; rw [Tryd.func85]; kernel_rfl) (Nat.le_of_ble_eq_true (by kernel_rfl)) (X := X) (c0 := 0) (Eq.mp (F85_eq g K X) h))
def rw85 : Raw := ⟨S85, O85, L85, 0, fun g K _ => F85 g K⟩
theorem rw85_ok : rw85.Ok Tryd.prog 85 := fun g K X h => F85_ok g K X h
/-- internal/stringslite.TrimPrefix -/
def H73 : List (Nat × Hint) := []
def J73 : List (Nat × Hint) := [(2, ⟨[], [(0, .leaf), (1, .leaf), (7, .leaf)], [], [.str, .str, .bool]⟩)]
abbrev S73 : List Sh := [.leaf, .leaf]
abbrev L73 : List Lf := [.str, .str]
abbrev O73 : List ObSh := []
def F73_J3 (K : Kn) (s_2 : ByteArray) (prefix_2 : ByteArray) (t_2 : Bool) : Prop :=
  bif t_2 then (
    (0 : Int) ≤ (prefix_2.size : Int) ∧ (prefix_2.size : Int) ≤ (s_2.size : Int) ∧ (s_2.size : Int) ≤ (s_2.size : Int) ∧
    K (.str (s_2.extract (prefix_2.size : Int).toNat (s_2.size : Int).toNat)) [])
  else (
    K (.str s_2) [])
def F73 (g : prodL L73) (K : Kn) : Prop :=
  let g1 : prodL [.str, .str] := (g.1, g.2.1, ());
  bif decide ((g1.2.1.size : Int) ≤ (g1.1.size : Int)) then (
    (0 : Int) ≤ 0 ∧ 0 ≤ (g1.2.1.size : Int) ∧ (g1.2.1.size : Int) ≤ (g1.1.size : Int) ∧
    F73_J3 K g.1 g.2.1 (decide (g1.1.extract (0 : Int).toNat (g1.2.1.size : Int).toNat = g1.2.1)))
  else (
    F73_J3 K g.1 g.2.1 false)
theorem F73_eq (g : prodL L73) (K X : Kn) : F73 g K = dfun D (gamX [(85, rw85)] []) (isRaw [(85, rw85)]) H73 J73 13 [.tmp 4] (codeOf Tryd.f73) (argsT S73 L73 g) (storeT S73 O73 L73 g) (settle0 K) X 0 := by kernel_rfl
theorem F73_ok (g : prodL L73) (K X : Kn) (h : F73 g K) : FCalls Tryd.prog 73 (argsT S73 L73 g) (storeT S73 O73 L73 g) K X 0 :=
  FCalls.settle0 (dfun_sound (Γ := gamX [(85, rw85)] []) (mu := isRaw [(85, rw85)]) (H := H73) (J := J73) D_ok (gamX_ok (rs := [(85, rw85)]) (l := []) (by intro p hp; simp only [List.mem_cons, List.not_mem_nil, or_false] at hp; subst hp; exact rw85_ok) (fun p hp => by cases hp)) gamX_det rfl Tryd.func73 (c := codeOf Tryd.f73) rfl Tryd.ntmps73 (rs := [.tmp 4]) Tryd.results73 (by unfold enters; rw [Tryd.func73]; kernel_rfl) (Nat.le_of_ble_eq_true (by kernel_rfl)) (X := X) (c0 := 0) (Eq.mp (F73_eq g K X) h))
def rw73 : Raw := ⟨S73, O73, L73, 0, fun g K _ => F73 g K⟩
theorem rw73_ok : rw73.Ok Tryd.prog 73 := fun g K X h => F73_ok g K X h
/-- strings.TrimPrefix -/
def H65 : List (Nat × Hint) := []
def J65 : List (Nat × Hint) := []
abbrev S65 : List Sh := [.leaf, .leaf]
abbrev L65 : List Lf := [.str, .str]
abbrev O65 : List ObSh := []
def F65_J4 (K : Kn) (s_3 : ByteArray) (prefix_3 : ByteArray) (t_3 : Bool) : Prop :=
  bif t_3 then (
    (0 : Int) ≤ (prefix_3.size : Int) ∧ (prefix_3.size : Int) ≤ (s_3.size : Int) ∧ (s_3.size : Int) ≤ (s_3.size : Int) ∧
    K (.str (s_3.extract (prefix_3.size : Int).toNat (s_3.size : Int).toNat)) [])
  else (
    K (.str s_3) [])
def F65 (g : prodL L65) (K : Kn) : Prop :=
  let g1 : prodL [.str, .str] := (g.1, g.2.1, ());
  let g2 : prodL [.str, .str] := (g1.1, g1.2.1, ());
  bif decide ((g2.2.1.size : Int) ≤ (g2.1.size : Int)) then (
    (0 : Int) ≤ 0 ∧ 0 ≤ (g2.2.1.size : Int) ∧ (g2.2.1.size : Int) ≤ (g2.1.size : Int) ∧
    F65_J4 K g1.1 g1.2.1 (decide (g2.1.extract (0 : Int).toNat (g2.2.1.size : Int).toNat = g2.2.1)))
  else (
    F65_J4 K g1.1 g1.2.1 false)
theorem F65_eq (g : prodL L65) (K X : Kn) : F65 g K = dfun D (gamX [(73, rw73)] []) (isRaw [(73, rw73)]) H65 J65 8 [.tmp 4] (codeOf Tryd.f65) (argsT S65 L65 g) (storeT S65 O65 L65 g) (settle0 K) X 0 := by kernel_rfl
theorem F65_ok (g : prodL L65) (K X : Kn) (h : F65 g K) : FCalls Tryd.prog 65 (argsT S65 L65 g) (storeT S65 O65 L65 g) K X 0 :=
  FCalls.settle0 (dfun_sound (Γ := gamX [(73, rw73)] []) (mu := isRaw [(73, rw73)]) (H := H65) (J := J65) D_ok (gamX_ok (rs := [(73, rw73)]) (l := []) (by intro p hp; simp only [List.mem_cons, List.not_mem_nil, or_false] at hp; subst hp; exact rw73_ok) (fun p hp => by cases hp)) gamX_det rfl Tryd.func65 (c := codeOf Tryd.f65) rfl Tryd.ntmps65 (rs := [.tmp 4]) Tryd.results65 (by unfold enters; rw [Tryd.func65]; kernel_rfl) (Nat.le_of_ble_eq_true (by kernel_rfl)) (X := X) (c0 := 0) (Eq.mp (F65_eq g K X) h))
def rw65 : Raw := ⟨S65, O65, L65, 0, fun g K _ => F65 g K⟩
theorem rw65_ok : rw65.Ok Tryd.prog 65 := fun g K X h => F65_ok g K X h
/-- quilt/quiltref01.decimal -/
def H50 : List (Nat × Hint) := [(4, ⟨[], [(0, .leaf), (3, .leaf)], [], [.str, .int .i64]⟩)]
def J50 : List (Nat × Hint) := [(2, ⟨[], [(0, .leaf), (11, .leaf)], [], [.str, .bool]⟩), (7, ⟨[], [(0, .leaf), (3, .leaf), (39, .leaf)], [], [.str, .int .i64, .bool]⟩)]
abbrev S50 : List Sh := [.leaf]
abbrev L50 : List Lf := [.str]
def spz50 (Z : prodL L50 → Prop) : Sp := ⟨S50, L50, Z, fun g => .bool (decR (bl g.1)), fun _ => none⟩
def F50_J10 (K : Kn) (W6 : prodL [.str, .int .i64] → Prop) (s_9 : ByteArray) (i_9 : Int) (t_9 : Bool) : Prop :=
  bif t_9 then (
    K (.bool false) [])
  else (
    W6 (s_9, IntKind.i64.wrap (i_9 + 1), ()))
def F50_B6 (K : Kn) (W6 : prodL [.str, .int .i64] → Prop) (s_5 : ByteArray) (i_5 : Int) : Prop :=
  bif decide (i_5 < (s_5.size : Int)) then (
    StrAt s_5 i_5 fun b7 =>
  bif decide (b7 < 48) then (
    F50_J10 K W6 s_5 i_5 true)
  else (
    StrAt s_5 i_5 fun b8 =>
    F50_J10 K W6 s_5 i_5 (decide (57 < b8))))
  else (
    bif decide ((s_5.size : Int) = 1) then (
    K (.bool true) [])
  else (
    bif decide (1 < (s_5.size : Int)) then (
      StrAt s_5 0 fun b11 =>
      K (.bool (!decide (b11 = 48))) [])
    else (
      K (.bool false) [])))
def F50_L6 (K : Kn) (g : prodL [.str, .int .i64]) : Prop :=
  LoopW (γ := prodL [.str, .int .i64]) (fun V y => F50_B6 K V y.1 y.2.1) g
def F50_J4 (K : Kn) (Z : prodL L50 → Prop) (s_2 : ByteArray) (t_2 : Bool) : Prop :=
  bif t_2 then (
    bif !decide (s_2 = (⟨#[45, 48]⟩ : ByteArray)) then (
      (0 : Int) ≤ 1 ∧ 1 ≤ (s_2.size : Int) ∧ (s_2.size : Int) ≤ (s_2.size : Int) ∧
      Z (s_2.extract (1 : Int).toNat (s_2.size : Int).toNat, ()) ∧
      bif decR (bl (s_2.extract (1 : Int).toNat (s_2.size : Int).toNat)) then (
        StrAt s_2 1 fun b3 =>
        K (.bool (!decide (b3 = 45))) [])
      else (
        K (.bool false) []))
    else (
      K (.bool false) []))
  else (
    F50_L6 K (s_2, 0, ()))
def F50 (Z : prodL L50 → Prop) (g : prodL L50) (K : Kn) : Prop :=
  bif decide (1 < (g.1.size : Int)) then (
    StrAt g.1 0 fun b1 =>
    F50_J4 K Z g.1 (decide (b1 = 45)))
  else (
    F50_J4 K Z g.1 false)
theorem F50_eq (Z : prodL L50 → Prop) (g : prodL L50) (K X : Kn) : F50 Z g K = dfun D (gamX [] [(50, true, spz50 Z)]) (isRaw []) H50 J50 53 [.tmp 2] (codeOf Tryd.f50) (argsT S50 L50 g) [] (settle0 K) X := by kernel_rfl
theorem F50_ok (Z : prodL L50 → Prop) (hZ : (spz50 Z).Ok Tryd.prog 50 true) (g : prodL L50) (K X : Kn) (h : F50 Z g K) : FCalls Tryd.prog 50 (argsT S50 L50 g) [] K X :=
  FCalls.settle0 (dfun_sound (Γ := gamX [] [(50, true, spz50 Z)]) (mu := isRaw []) (H := H50) (J := J50) D_ok (gamX_ok (rs := []) (l := [(50, true, spz50 Z)]) (fun p hp => by cases hp) (by intro p hp; simp only [List.mem_cons, List.not_mem_nil, or_false] at hp; subst hp; exact hZ)) gamX_det rfl Tryd.func50 (c := codeOf Tryd.f50) rfl Tryd.ntmps50 (rs := [.tmp 2]) Tryd.results50 (by unfold enters; rw [Tryd.func50]; kernel_rfl) (Nat.le_of_ble_eq_true (by kernel_rfl)) (X := X) (c0 := 0) (Eq.mp (F50_eq Z g K X) h))
/-- quilt/csexp.canonical -/
def H47 : List (Nat × Hint) := [(3, ⟨[], [(0, .leaf), (3, .leaf), (8, .leaf), (9, .leaf)], [], [.str, .str, .int .i64, .int .i64]⟩)]
def J47 : List (Nat × Hint) := [(2, ⟨[], [(0, .leaf), (3, .leaf)], [], [.str, .str]⟩), (6, ⟨[], [(0, .leaf), (3, .leaf), (8, .leaf), (9, .leaf), (21, .leaf)], [], [.str, .str, .int .i64, .int .i64, .bool]⟩)]
abbrev S47 : List Sh := [.leaf]
abbrev L47 : List Lf := [.str]
def F47_J12 (K : Kn) (W8 : prodL [.str, .str, .int .i64, .int .i64] → Prop) (s_11 : ByteArray) (digits_11 : ByteArray) (t_11 : Int) (t2_11 : Int) (t3_11 : Bool) : Prop :=
  bif t3_11 then (
    K (.bool false) [])
  else (
    W8 (s_11, digits_11, t_11, IntKind.i64.wrap (t2_11 + 1), ()))
def F47_B8 (K : Kn) (W8 : prodL [.str, .str, .int .i64, .int .i64] → Prop) (s_7 : ByteArray) (digits_7 : ByteArray) (t_7 : Int) (t2_7 : Int) : Prop :=
  bif decide (t2_7 < t_7) then (
    StrAt digits_7 t2_7 fun b9 =>
  bif decide (b9 < 48) then (
    F47_J12 K W8 s_7 digits_7 t_7 t2_7 true)
  else (
    StrAt digits_7 t2_7 fun b10 =>
    F47_J12 K W8 s_7 digits_7 t_7 t2_7 (decide (57 < b10))))
  else (
    bif !decide (digits_7 = (⟨#[]⟩ : ByteArray)) then (
    StrAt digits_7 0 fun b13 =>
    bif !decide (b13 = 48) then (
      K (.bool true) [])
    else (
      K (.bool (decide (s_7 = (⟨#[48]⟩ : ByteArray)))) []))
  else (
    K (.bool false) []))
def F47_L8 (K : Kn) (g : prodL [.str, .str, .int .i64, .int .i64]) : Prop :=
  LoopW (γ := prodL [.str, .str, .int .i64, .int .i64]) (fun V y => F47_B8 K V y.1 y.2.1 y.2.2.1 y.2.2.2.1) g
def F47_J14 (K : Kn) (s_6 : ByteArray) (digits_6 : ByteArray) : Prop :=
  F47_L8 K (s_6, digits_6, (digits_6.size : Int), 0, ())
def F47_J5 (K : Kn) (g : prodL L47) (s_4 : ByteArray) (prefix_4 : ByteArray) (t_4 : Bool) : Prop :=
  bif t_4 then (
    (0 : Int) ≤ (prefix_4.size : Int) ∧ (prefix_4.size : Int) ≤ (s_4.size : Int) ∧ (s_4.size : Int) ≤ (s_4.size : Int) ∧
    F47_J14 K g.1 (s_4.extract (prefix_4.size : Int).toNat (s_4.size : Int).toNat))
  else (
    F47_J14 K g.1 s_4)
def F47 (g : prodL L47) (K : Kn) : Prop :=
  let g1 : prodL [.str, .str] := (g.1, (⟨#[45]⟩ : ByteArray), ());
  let g2 : prodL [.str, .str] := (g1.1, g1.2.1, ());
  let g3 : prodL [.str, .str] := (g2.1, g2.2.1, ());
  bif decide ((g3.2.1.size : Int) ≤ (g3.1.size : Int)) then (
    (0 : Int) ≤ 0 ∧ 0 ≤ (g3.2.1.size : Int) ∧ (g3.2.1.size : Int) ≤ (g3.1.size : Int) ∧
    F47_J5 K g g2.1 g2.2.1 (decide (g3.1.extract (0 : Int).toNat (g3.2.1.size : Int).toNat = g3.2.1)))
  else (
    F47_J5 K g g2.1 g2.2.1 false)
theorem F47_eq (g : prodL L47) (K X : Kn) : F47 g K = dfun D (gamX [(65, rw65)] []) (isRaw [(65, rw65)]) H47 J47 34 [.tmp 2] (codeOf Tryd.f47) (argsT S47 L47 g) [] (settle0 K) X := by kernel_rfl
theorem F47_ok (g : prodL L47) (K X : Kn) (h : F47 g K) : FCalls Tryd.prog 47 (argsT S47 L47 g) [] K X :=
  FCalls.settle0 (dfun_sound (Γ := gamX [(65, rw65)] []) (mu := isRaw [(65, rw65)]) (H := H47) (J := J47) D_ok (gamX_ok (rs := [(65, rw65)]) (l := []) (by intro p hp; simp only [List.mem_cons, List.not_mem_nil, or_false] at hp; subst hp; exact rw65_ok) (fun p hp => by cases hp)) gamX_det rfl Tryd.func47 (c := codeOf Tryd.f47) rfl Tryd.ntmps47 (rs := [.tmp 2]) Tryd.results47 (by unfold enters; rw [Tryd.func47]; kernel_rfl) (Nat.le_of_ble_eq_true (by kernel_rfl)) (X := X) (c0 := 0) (Eq.mp (F47_eq g K X) h))
end Go.Proofs.YtofjpelbjehddaaDoor

/-
  Csexp: next, the reference's atom, and the decimal forms.
-/
namespace Go.Proofs.YtofjpelbjehddaaDoor
set_option linter.unusedVariables false
set_option linter.unusedSimpArgs false
set_option linter.unusedSectionVars false
open Go.RowKit

theorem bl_len (s : ByteArray) : (bl s).length = s.size := by unfold bl; simp
theorem bl_get (s : ByteArray) (n : Nat) : s[n]? = (bl s)[n]? := by
  unfold bl
  by_cases h : n < s.size
  · rw [getElem?_pos s n h, List.getElem?_eq_getElem (by simpa using h)]
    simp [ByteArray.getElem_eq_getElem_data]
  · rw [getElem?_neg s n h, List.getElem?_eq_none (by simpa using Nat.le_of_not_lt h)]
theorem bl_extract (s : ByteArray) (a b : Nat) : bl (s.extract a b) = ((bl s).take b).drop a := by
  unfold bl
  rw [ByteArray.data_extract, Array.toList_extract, List.extract_eq_take_drop, List.drop_take]
theorem bl_inj {s t : ByteArray} (h : bl s = bl t) : s = t := by
  obtain ⟨s⟩ := s
  obtain ⟨t⟩ := t
  unfold bl at h
  simp only at h
  rw [Array.toList_inj.1 h]
theorem bl_mk (l : List UInt8) : bl ⟨l.toArray⟩ = l := by simp [bl]
theorem mk_bl (s : ByteArray) : (⟨(bl s).toArray⟩ : ByteArray) = s := by simp [bl]
theorem StrAt_of {s : ByteArray} {n : Nat} {c : UInt8} {r : List UInt8} {K : Int → Prop} (h : (bl s).drop n = c :: r) (hK : K (c.toNat : Int)) : StrAt s (n : Int) K := by
  refine ⟨by omega, c, ?_, hK⟩
  rw [Int.toNat_natCast, bl_get]
  have := congrArg (·[0]?) h
  simpa using this
theorem drop_next {α : Type} {l r : List α} {n : Nat} {c : α} (h : l.drop n = c :: r) : l.drop (n + 1) = r ∧ n < l.length ∧ r.length + n + 1 = l.length := by
  have h1 := congrArg List.length h
  simp only [List.length_drop, List.length_cons] at h1
  refine ⟨?_, by omega, by omega⟩
  rw [← List.drop_drop, h]; rfl
theorem u8_lt (c : UInt8) : c.toNat < 256 := c.toNat_lt
theorem digit_val {c : UInt8} (h1 : 48 ≤ c.toNat) (h2 : c.toNat ≤ 57) : IntKind.i64.wrap (IntKind.u8.wrap ((c.toNat : Int) - 48)) = ((c.toNat - 48 : Nat) : Int) := by
  have : IntKind.u8.wrap ((c.toNat : Int) - 48) = (c.toNat : Int) - 48 := by simp [IntKind.wrap, IntKind.bits, IntKind.signed]; omega
  rw [this, wrap64 (by omega) (by omega)]; omega
def rw71 : Raw := ⟨S71, O71, L71, 0, fun g K X => nextPre g ∧ nextF g K X⟩
theorem rw71_ok : rw71.Ok Tryd.prog 71 := by
  rintro ⟨s, p, n, ⟨⟩⟩ K X ⟨⟨h1, h2, h3⟩, h⟩
  refine F71_ok _ K X ?_
  obtain ⟨q, rfl⟩ := Int.eq_ofNat_of_zero_le h1
  unfold nextF at h
  unfold F71
  dsimp only [Lf.ty, prodL] at h2 h ⊢
  rw [Int.toNat_natCast] at h
  rw [bif_dec]
  have hl := bl_len s
  cases hd : (bl s).drop q with
  | nil =>
    have := List.drop_eq_nil_iff.1 hd
    rw [hd] at h
    rw [if_pos (by omega)]
    exact h
  | cons c r =>
    obtain ⟨_, d2, _⟩ := drop_next hd
    rw [hd] at h
    rw [if_neg (by omega)]
    exact StrAt_of hd h

/-! ### The reference's atom -/
/-- The loop's end: at a place behind n digits, begun at begin. -/
theorem F79_end {n b p : Nat} {s : ByteArray} {t1 : ByteArray} {t2 t3 t4 left : Int} {K : Kn} (hp : p ≤ s.size) (hs : s.size ≤ 2147483648) (hn : n ≤ 65536) (hnd : ∀ c r, (bl s).drop p = c :: r → ¬ (48 ≤ c.toNat ∧ c.toNat ≤ 57))
    (hc : b = p → n = 0) (h : Res.go (atomG (decide (b = p)) n ((bl s).drop p))
      (fun a : List UInt8 × List UInt8 => K (.tu [.str (⟨a.1.toArray⟩ : ByteArray), .ag [.str s, .int .i64 ((s.size : Int) - (a.2.length : Int)), .int .i64 left, .int .i64 0]]) []) (fun e => ∀ p : Int, K (.tu [.str (⟨#[]⟩ : ByteArray), .ag [.str s, .int .i64 p, .int .i64 left, .int .i64 e]]) [])) :
    F79_J13 K (n : Int) (b : Int) s (p : Int) left 0 t1 t2 t3 t4 := by
  have hl := bl_len s
  unfold F79_J13
  rw [bif_dec]
  cases hd : (bl s).drop p with
  | nil =>
    have := List.drop_eq_nil_iff.1 hd
    rw [hd] at h
    rw [if_pos (by omega)]
    exact h _
  | cons c r =>
    obtain ⟨d1, d2, d3⟩ := drop_next hd
    rw [hd] at h
    rw [if_neg (by omega), bif_dec]
    have hnd := hnd c r hd
    simp only [atomG, numR] at h
    have w1 : IntKind.i64.wrap ((p : Int) + 1) = ((p + 1 : Nat) : Int) := by rw [wrap64 (by omega) (by omega)]; omega
    by_cases hb : b = p
    · subst hb
      rw [if_pos rfl]
      rw [if_neg (by simp)] at h
      by_cases h58 : c.toNat < 48
      · rw [if_pos (.inl h58)] at h
        exact h _
      · rw [if_pos (.inr (.inl (by omega)))] at h
        exact h _
    · rw [if_neg (by omega)]
      refine StrAt_of hd ?_
      rw [decide_eq_false hb] at h
      unfold F79_J12
      by_cases h58 : c.toNat = 58
      · rw [if_pos ⟨h58, rfl⟩] at h
        rw [show (!decide ((c.toNat : Int) = 58)) = false by simp; omega, cond_false, bif_dec, w1, wrap64 (by omega) (by omega), wrap64 (by omega) (by omega)]
        simp only at h
        by_cases h1 : r.length < n
        · rw [if_pos h1] at h
          rw [if_pos (by omega)]
          exact h _
        · rw [if_neg h1] at h
          rw [if_neg (by omega)]
          refine ⟨by omega, by omega, by omega, ?_⟩
          have e1 : s.extract ((p + 1 : Nat) : Int).toNat (((p + 1 : Nat) : Int) + (n : Int)).toNat = ⟨(r.take n).toArray⟩ := by
            apply bl_inj
            rw [show bl ⟨(r.take n).toArray⟩ = r.take n from bl_mk _, bl_extract, Int.toNat_natCast, show (((p + 1 : Nat) : Int) + (n : Int)).toNat = p + 1 + n by omega, List.drop_take, d1, show p + 1 + n - (p + 1) = n by omega]
          have e2 : ((p + 1 : Nat) : Int) + (n : Int) = (s.size : Int) - ((r.drop n).length : Int) := by rw [List.length_drop]; omega
          rw [e1, e2]
          exact h
      · rw [if_neg (by simp [h58]), if_pos (by omega)] at h
        rw [show (!decide ((c.toNat : Int) = 58)) = true by simp; omega, cond_true]
        exact h _
theorem F79_is {p : Nat} {s : ByteArray} {left : Int} {K X : Kn} (hp : p ≤ s.size) (hs : s.size ≤ 2147483648) (h : atomF (s, (p : Int), left, 0, ()) K X) : F79 (s, (p : Int), left, 0, ()) K := by
  unfold atomF atomR at h
  dsimp only [Lf.ty, prodL] at h
  rw [Int.toNat_natCast] at h
  have hl := bl_len s
  unfold F79 F79_L2
  dsimp only [Lf.ty, prodL]
  let M (first : Bool) (n q : Nat) : Prop := Res.go (atomG first n ((bl s).drop q))
      (fun a : List UInt8 × List UInt8 => K (.tu [.str (⟨a.1.toArray⟩ : ByteArray), .ag [.str s, .int .i64 ((s.size : Int) - (a.2.length : Int)), .int .i64 left, .int .i64 0]]) []) (fun e => ∀ p : Int, K (.tu [.str (⟨#[]⟩ : ByteArray), .ag [.str s, .int .i64 p, .int .i64 left, .int .i64 e]]) [])
  refine LoopW.of (fun g => ∃ (n q : Nat), g = ((n : Int), (p : Int), s, (q : Int), left, 0, (⟨#[]⟩ : ByteArray), 0, 0, 0, ()) ∧ p ≤ q ∧ q ≤ s.size ∧ n ≤ 65536 ∧ (p = q → n = 0) ∧ (∀ c r, p < q → (bl s).drop p = c :: r → (q = p + 1 → n = c.toNat - 48) ∧ (p + 1 < q → n ≠ 0 ∧ c.toNat ≠ 48) ∧ 48 ≤ c.toNat) ∧ M (decide (p = q)) n q) (fun g => (s.size - g.2.2.2.1.toNat)) ?_ ⟨0, p, rfl, Nat.le_refl _, hp, by omega, fun _ => rfl, fun _ _ h => absurd h (Nat.lt_irrefl _), by simpa [M] using h⟩
  rintro g ⟨n, q, rfl, i1, i2, i3, i4, i5, i6⟩ W hW
  have hend : (∀ c r, (bl s).drop q = c :: r → ¬ (48 ≤ c.toNat ∧ c.toNat ≤ 57)) → F79_J13 K (n : Int) (p : Int) s (q : Int) left 0 (⟨#[]⟩ : ByteArray) 0 0 0 := fun hn => F79_end i2 hs i3 hn i4 i6
  unfold F79_B2
  dsimp only
  rw [bif_dec]
  cases hd : (bl s).drop q with
  | nil =>
    have := List.drop_eq_nil_iff.1 hd
    rw [if_neg (by omega)]
    exact hend fun c r h => by rw [hd] at h; cases h
  | cons c r =>
    obtain ⟨d1, d2, d3⟩ := drop_next hd
    rw [if_pos (by omega)]
    refine StrAt_of hd ?_
    rw [bif_dec]
    by_cases h1 : 48 ≤ c.toNat
    case neg =>
      rw [if_neg (by omega)]
      exact hend fun c' r' h => by rw [hd] at h; injection h with h _; subst h; omega
    rw [if_pos (by omega)]
    refine StrAt_of hd ?_
    rw [bif_dec]
    by_cases h2 : c.toNat ≤ 57
    case neg =>
      rw [if_neg (by omega)]
      exact hend fun c' r' h => by rw [hd] at h; injection h with h _; subst h; omega
    rw [if_pos (by omega)]
    refine StrAt_of hd ?_
    have hval : IntKind.i64.wrap ((IntKind.i64.wrap ((n : Int) * 10)) + (IntKind.i64.wrap (IntKind.u8.wrap ((c.toNat : Int) - 48)))) = ((10 * n + (c.toNat - 48) : Nat) : Int) := by
      rw [digit_val h1 h2, wrap64 (n := (n : Int) * 10) (by omega) (by omega), wrap64 (by omega) (by omega)]; omega
    have w1 : IntKind.i64.wrap ((q : Int) + 1) = ((q + 1 : Nat) : Int) := by rw [wrap64 (by omega) (by omega)]; omega
    rw [hval, w1, bif_dec]
    have hM : M (decide (p = q)) n q := i6
    simp only [M, hd, atomG, numR] at hM
    rw [if_neg (by omega)] at hM
    by_cases hz : decide (p = q) = false ∧ n = 0
    · -- a zero ahead of a digit
      rw [if_pos (.inr (.inr hz))] at hM
      have hpq : p < q := by have := of_decide_eq_false hz.1; omega
      obtain ⟨c0, r0, hd0⟩ : ∃ c0 r0, (bl s).drop p = c0 :: r0 := by
        cases h0 : (bl s).drop p with
        | nil => have := List.drop_eq_nil_iff.1 h0; omega
        | cons c0 r0 => exact ⟨c0, r0, rfl⟩
      obtain ⟨j1, j2, j3⟩ := i5 c0 r0 hpq hd0
      rw [if_neg (by omega), bif_dec, wrap64 (by omega) (by omega), if_pos (by omega)]
      refine StrAt_of hd0 ?_
      have : c0.toNat = 48 := by
        by_cases e : q = p + 1
        · have := j1 e; omega
        · exact absurd hz.2 (j2 (by omega)).1
      unfold F79_J8
      rw [show decide ((c0.toNat : Int) = 48) = true by simp; omega, cond_true]
      exact hM _
    rw [if_neg (by simp only [not_or]; exact ⟨by omega, by omega, hz⟩)] at hM
    by_cases h3 : 65536 < 10 * n + (c.toNat - 48)
    · rw [if_pos h3] at hM
      rw [if_pos (by omega)]
      exact hM _
    rw [if_neg h3] at hM
    rw [if_neg (by omega), bif_dec, wrap64 (by omega) (by omega)]
    have hnext : W (((10 * n + (c.toNat - 48) : Nat) : Int), (p : Int), s, ((q + 1 : Nat) : Int), left, 0, (⟨#[]⟩ : ByteArray), 0, 0, 0, ()) := by
      refine hW _ ⟨_, q + 1, rfl, by omega, by omega, by omega, by omega, fun c0 r0 hlt h0 => ?_, ?_⟩ ?_
      · by_cases e : p = q
        · subst e
          rw [hd] at h0
          injection h0 with h0 _
          subst h0
          have := i4 rfl
          exact ⟨fun _ => by omega, fun h => by omega, h1⟩
        · obtain ⟨j1, j2, j3⟩ := i5 c0 r0 (by omega) h0
          have hn0 : n ≠ 0 := fun h => hz ⟨decide_eq_false e, h⟩
          refine ⟨fun h => by omega, fun _ => ⟨by omega, ?_⟩, j3⟩
          by_cases e2 : q = p + 1
          · have := j1 e2; omega
          · exact (j2 (by omega)).2
      · rw [decide_eq_false (show ¬ p = q + 1 by omega)]
        simp only [M, d1, atomG]
        exact hM
      · dsimp only
        rw [Int.toNat_natCast, Int.toNat_natCast]; omega
    by_cases h4 : p = q
    · rw [if_neg (by omega)]
      unfold F79_J8
      exact hnext
    · rw [if_pos (by omega)]
      obtain ⟨c0, r0, hd0⟩ : ∃ c0 r0, (bl s).drop p = c0 :: r0 := by
        cases h0 : (bl s).drop p with
        | nil => have := List.drop_eq_nil_iff.1 h0; omega
        | cons c0 r0 => exact ⟨c0, r0, rfl⟩
      obtain ⟨j1, j2, j3⟩ := i5 c0 r0 (by omega) hd0
      refine StrAt_of hd0 ?_
      have hn0 : n ≠ 0 := fun h => hz ⟨decide_eq_false h4, h⟩
      have : c0.toNat ≠ 48 := by
        by_cases e : q = p + 1
        · have := j1 e; omega
        · exact (j2 (by omega)).2
      unfold F79_J8
      rw [show decide ((c0.toNat : Int) = 48) = false by simp; omega, cond_false]
      exact hnext
def rw79 : Raw := ⟨S79, O79, L79, 0, fun g K X => atomPre g ∧ atomF g K X⟩
theorem rw79_ok : rw79.Ok Tryd.prog 79 := by
  rintro ⟨s, p, n, e, ⟨⟩⟩ K X ⟨⟨⟨h1, h2, h3⟩, h4⟩, h⟩
  have h4 : e = 0 := h4
  subst h4
  obtain ⟨q, rfl⟩ := Int.eq_ofNat_of_zero_le h1
  rw [lim_eq] at h3
  exact F79_ok _ K X (F79_is (X := X) (Int.ofNat_le.1 h2) (by dsimp only [Lf.ty] at *; omega) h)
end Go.Proofs.YtofjpelbjehddaaDoor

/- What functions come to: printed by exf.py. -/
namespace Go.Proofs.YtofjpelbjehddaaDoor
set_option linter.unusedVariables false
set_option linter.unusedSimpArgs false
set_option linter.unusedSectionVars false
open Go.RowKit
attribute [local irreducible] dfun dround
/-- (*quilt/csexp.reader).length -/
def H72 : List (Nat × Hint) := [(4, ⟨[], [(0, .pt 0 0), (3, .leaf), (4, .leaf)], [.cells [.leaf, .leaf, .leaf]], [.int .i64, .bool, .str, .int .i64, .int .i64]⟩)]
def J72 : List (Nat × Hint) := [(6, ⟨[], [(0, .pt 0 0), (3, .leaf), (4, .leaf), (5, .leaf), (13, .leaf)], [.cells [.leaf, .leaf, .leaf]], [.int .i64, .bool, .int .u8, .bool, .str, .int .i64, .int .i64]⟩), (9, ⟨[], [(0, .pt 0 0), (3, .leaf), (5, .leaf), (35, .leaf)], [.cells [.leaf, .leaf, .leaf]], [.int .i64, .int .u8, .bool, .str, .int .i64, .int .i64]⟩)]
abbrev S72 : List Sh := [.pt 0 0]
abbrev L72 : List Lf := [.str, .int .i64, .int .i64]
abbrev O72 : List ObSh := [.cells [.leaf, .leaf, .leaf]]
def F72_J8 (K X : Kn) (W2 : prodL [.int .i64, .bool, .str, .int .i64, .int .i64] → Prop) (n_7 : Int) (c_7 : Int) (t_7 : Bool) (o01_7 : ByteArray) (o02_7 : Int) (o03_7 : Int) : Prop :=
  bif t_7 then (
    X (.ic 100 (.ag [.int .i64 12])) [some (.cells [.str o01_7, .int .i64 o02_7, .int .i64 o03_7])])
  else (
    bif decide (65536 < IntKind.i64.wrap ((IntKind.i64.wrap (10 * n_7)) + (IntKind.i64.wrap (IntKind.u8.wrap (c_7 - 48))))) then (
    X (.ic 100 (.ag [.int .i64 12])) [some (.cells [.str o01_7, .int .i64 o02_7, .int .i64 o03_7])])
  else (
    W2 (IntKind.i64.wrap ((IntKind.i64.wrap (10 * n_7)) + (IntKind.i64.wrap (IntKind.u8.wrap (c_7 - 48)))), false, o01_7, IntKind.i64.wrap (o02_7 + 1), o03_7, ())))
def F72_J6 (K X : Kn) (W2 : prodL [.int .i64, .bool, .str, .int .i64, .int .i64] → Prop) (n_5 : Int) (first_5 : Bool) (c_5 : Int) (t_5 : Bool) (o01_5 : ByteArray) (o02_5 : Int) (o03_5 : Int) : Prop :=
  bif t_5 then (
    K (.int .i64 n_5) [some (.cells [.str o01_5, .int .i64 (IntKind.i64.wrap (o02_5 + 1)), .int .i64 o03_5])])
  else (
    bif decide (c_5 < 48) then (
    F72_J8 K X W2 n_5 c_5 true o01_5 o02_5 o03_5)
  else (
    bif decide (57 < c_5) then (
      F72_J8 K X W2 n_5 c_5 true o01_5 o02_5 o03_5)
    else (
      bif !first_5 then (
        F72_J8 K X W2 n_5 c_5 (decide (n_5 = 0)) o01_5 o02_5 o03_5)
      else (
        F72_J8 K X W2 n_5 c_5 false o01_5 o02_5 o03_5))))
def F72_B2 (K X : Kn) (W2 : prodL [.int .i64, .bool, .str, .int .i64, .int .i64] → Prop) (n_1 : Int) (first_1 : Bool) (o01_1 : ByteArray) (o02_1 : Int) (o03_1 : Int) : Prop :=
  nextPre (o01_1, o02_1, o03_1, ()) ∧
  Res.go (headR ((bl o01_1).drop o02_1.toNat)) (fun a3 =>
  bif decide ((a3.toNat : Int) = 58) then (
    F72_J6 K X W2 n_1 first_1 (a3.toNat : Int) (!first_1) o01_1 o02_1 o03_1)
  else (
    F72_J6 K X W2 n_1 first_1 (a3.toNat : Int) false o01_1 o02_1 o03_1)) (fun e4 =>
  X (.ic 100 (.ag [.int .i64 e4])) [some (.cells [.str o01_1, .int .i64 o02_1, .int .i64 o03_1])])
def F72_L2 (K X : Kn) (g : prodL [.int .i64, .bool, .str, .int .i64, .int .i64]) : Prop :=
  LoopW (γ := prodL [.int .i64, .bool, .str, .int .i64, .int .i64]) (fun V y => F72_B2 K X V y.1 y.2.1 y.2.2.1 y.2.2.2.1 y.2.2.2.2.1) g
def F72 (g : prodL L72) (K X : Kn) : Prop :=
  F72_L2 K X (0, true, g.1, g.2.1, g.2.2.1, ())
theorem F72_eq (g : prodL L72) (K X : Kn) : F72 g K X = dfun D (gamX [(71, rw71)] []) (isRaw [(71, rw71)]) H72 J72 55 [.tmp 2] (codeOf Tryd.f72) (argsT S72 L72 g) (storeT S72 O72 L72 g) (settleD (storeT S72 O72 L72 g).length 0 K) (settleD (storeT S72 O72 L72 g).length 0 X) 0 := by kernel_rfl
theorem F72_ok (g : prodL L72) (K X : Kn) (h : F72 g K X) : FCalls Tryd.prog 72 (argsT S72 L72 g) (storeT S72 O72 L72 g) K X 0 :=
  FCalls.settleX (FCalls.settleD (dfun_sound (Γ := gamX [(71, rw71)] []) (mu := isRaw [(71, rw71)]) (H := H72) (J := J72) D_ok (gamX_ok (rs := [(71, rw71)]) (l := []) (by intro p hp; simp only [List.mem_cons, List.not_mem_nil, or_false] at hp; subst hp; exact rw71_ok) (fun p hp => by cases hp)) gamX_det rfl Tryd.func72 (c := codeOf Tryd.f72) rfl Tryd.ntmps72 (rs := [.tmp 2]) Tryd.results72 (by unfold enters; rw [Tryd.func72]; kernel_rfl) (Nat.le_of_ble_eq_true (by kernel_rfl)) (X := (settleD (storeT S72 O72 L72 g).length 0 X)) (c0 := 0) (Eq.mp (F72_eq g K X) h)))
end Go.Proofs.YtofjpelbjehddaaDoor

/-
  Csexp: the length of an atom; decimal forms.
-/
namespace Go.Proofs.YtofjpelbjehddaaDoor
set_option linter.unusedVariables false
set_option linter.unusedSimpArgs false
set_option linter.unusedSectionVars false
open Go.RowKit

theorem F72_is {p : Nat} {s : ByteArray} {k : Int} {K X : Kn} (hp : p ≤ s.size) (hs : s.size ≤ 2147483648) (h : numF (s, (p : Int), k, ()) K X) : F72 (s, (p : Int), k, ()) K X := by
  unfold numF at h
  dsimp only [Lf.ty, prodL] at h
  rw [Int.toNat_natCast] at h
  have hl := bl_len s
  unfold F72 F72_L2
  dsimp only [Lf.ty, prodL]
  refine LoopW.of (fun g => ∃ (first : Bool) (n q : Nat), g = ((n : Int), first, s, (q : Int), k, ()) ∧ q ≤ s.size ∧ n ≤ 65536 ∧ Res.go (numR first n ((bl s).drop q)) (fun a => K (.int .i64 (a.1 : Int)) [some (.cells [.str s, .int .i64 ((s.size : Int) - (a.2.length : Int)), .int .i64 k])]) (fun e => ∀ p : Int, X (.ic 100 (.ag [.int .i64 e])) [some (.cells [.str s, .int .i64 p, .int .i64 k])]))
    (fun g => s.size - g.2.2.2.1.toNat) ?_ ⟨true, 0, p, rfl, hp, by omega, h⟩
  rintro g ⟨first, n, q, rfl, i1, i2, i3⟩ W hW
  unfold F72_B2
  dsimp only
  refine ⟨⟨by dsimp only; omega, by dsimp only; omega, by rw [lim_eq]; exact hs⟩, ?_⟩
  rw [Int.toNat_natCast]
  cases hd : (bl s).drop q with
  | nil =>
    rw [hd] at i3
    exact i3 _
  | cons c r =>
    obtain ⟨d1, d2, d3⟩ := drop_next hd
    rw [hd] at i3
    simp only [numR] at i3
    show bif decide ((c.toNat : Int) = 58) then _ else _
    have w1 : IntKind.i64.wrap ((q : Int) + 1) = ((q + 1 : Nat) : Int) := by rw [wrap64 (by omega) (by omega)]; omega
    have hJ8 : ∀ t : Bool, (t = true ↔ (c.toNat < 48 ∨ 57 < c.toNat ∨ (first = false ∧ n = 0))) → ¬ (c.toNat = 58 ∧ first = false) → F72_J8 K X W (n : Int) (c.toNat : Int) t s (q : Int) k := fun t ht hn => by
      rw [if_neg hn] at i3
      unfold F72_J8
      cases t
      · have hn2 : ¬ (c.toNat < 48 ∨ 57 < c.toNat ∨ (first = false ∧ n = 0)) := fun h => by have := ht.2 h; cases this
        rw [if_neg hn2] at i3
        have h1 : 48 ≤ c.toNat := by omega
        have h2 : c.toNat ≤ 57 := by omega
        have hval : IntKind.i64.wrap ((IntKind.i64.wrap (10 * (n : Int))) + (IntKind.i64.wrap (IntKind.u8.wrap ((c.toNat : Int) - 48)))) = ((10 * n + (c.toNat - 48) : Nat) : Int) := by
          rw [digit_val h1 h2, wrap64 (n := 10 * (n : Int)) (by omega) (by omega), wrap64 (by omega) (by omega)]; omega
        rw [cond_false, hval, bif_dec, w1]
        by_cases h3 : 65536 < 10 * n + (c.toNat - 48)
        · rw [if_pos h3] at i3
          rw [if_pos (by omega)]
          exact i3 _
        · rw [if_neg h3] at i3
          rw [if_neg (by omega)]
          refine hW _ ⟨false, _, q + 1, rfl, by omega, by omega, by rw [d1]; exact i3⟩ ?_
          dsimp only
          rw [Int.toNat_natCast, Int.toNat_natCast]; omega
      · rw [if_pos (ht.1 rfl)] at i3
        exact i3 _
    have hJ6 : ¬ (c.toNat = 58 ∧ first = false) → F72_J6 K X W (n : Int) first (c.toNat : Int) false s (q : Int) k := fun hn => by
      unfold F72_J6
      rw [cond_false, bif_dec]
      split
      · exact hJ8 _ ⟨fun _ => .inl (by omega), fun _ => rfl⟩ hn
      · rw [bif_dec]
        split
        · exact hJ8 _ ⟨fun _ => .inr (.inl (by omega)), fun _ => rfl⟩ hn
        · rw [bif_not]
          cases first
          · rw [cond_false]
            refine hJ8 _ ⟨fun h => .inr (.inr ⟨rfl, by have := of_decide_eq_true h; omega⟩), fun h => decide_eq_true (by omega)⟩ hn
          · rw [cond_true]
            refine hJ8 false ⟨fun h => Bool.noConfusion h, fun h => ?_⟩ hn
            rcases h with h | h | h
            · omega
            · omega
            · cases h.1
    rw [bif_dec]
    by_cases h58 : c.toNat = 58
    · rw [if_pos (by omega)]
      cases first
      · rw [if_pos ⟨h58, rfl⟩] at i3
        unfold F72_J6
        rw [Bool.not_false, cond_true, w1, show ((q + 1 : Nat) : Int) = (s.size : Int) - (r.length : Int) by omega]
        exact i3
      · exact hJ6 (by simp)
    · rw [if_neg (by omega)]
      exact hJ6 (fun h => h58 h.1)
def rw72 : Raw := ⟨S72, O72, L72, 0, fun g K X => nextPre g ∧ numF g K X⟩
theorem rw72_ok : rw72.Ok Tryd.prog 72 := by
  rintro ⟨s, p, n, ⟨⟩⟩ K X ⟨⟨h1, h2, h3⟩, h⟩
  obtain ⟨q, rfl⟩ := Int.eq_ofNat_of_zero_le h1
  rw [lim_eq] at h3
  exact F72_ok _ K X (F72_is (Int.ofNat_le.1 h2) (by dsimp only [Lf.ty] at *; omega) h)

/-! ### Decimal forms -/
def fin35 : List UInt8 → Bool
  | [] => false
  | c :: r => decide (r = []) || !decide (c.toNat = 48)
theorem digs_cons (c : UInt8) (r : List UInt8) : digs (c :: r) = (decide (48 ≤ c.toNat) && decide (c.toNat ≤ 57) && digs r) := rfl
theorem F50_loop {s : ByteArray} {K : Kn} (hs : s.size ≤ 4294967296) (h : K (.bool (digs (bl s) && fin35 (bl s))) []) : F50_L6 K (s, 0, ()) := by
  have hl := bl_len s
  unfold F50_L6
  refine LoopW.fold (bl s) (fun n (_ : Unit) => (s, (n : Int), ())) (fun r n _ => K (.bool (digs r && fin35 (bl s))) [] ∧ (bl s).drop n = r) (a0 := ()) rfl ⟨h, rfl⟩ (fun _ hp W => ?_) (fun n hn r _ hr hp W hW => ?_)
  · unfold F50_B6
    rw [bif_dec, if_neg (by dsimp only; omega), bif_dec]
    have hp := hp.1
    dsimp only
    cases hb : bl s with
    | nil =>
      rw [hb] at hp hl
      simp at hl
      rw [if_neg (by omega), bif_dec, if_neg (by omega)]
      exact hp
    | cons c r =>
      rw [hb] at hp hl
      simp only [List.length_cons] at hl
      by_cases h1 : r = []
      · subst h1
        simp at hl
        rw [if_pos (by omega)]
        simp only [fin35, decide_true, Bool.true_or, Bool.and_true] at hp
        exact hp
      · have : 0 < r.length := List.length_pos_iff.2 h1
        rw [if_neg (by omega), bif_dec, if_pos (by omega)]
        refine StrAt_of (n := 0) (by rw [List.drop_zero]; exact hb) ?_
        simp only [fin35, decide_eq_false h1, Bool.false_or] at hp
        rw [show decide ((c.toNat : Int) = 48) = decide (c.toNat = 48) from decide_eq_decide.2 (by omega)]
        exact hp
  · unfold F50_B6
    obtain ⟨hp, hd⟩ := hp
    obtain ⟨d1, _, _⟩ := drop_next hd
    rw [bif_dec, if_pos (by dsimp only; omega)]
    dsimp only
    refine StrAt_of hd ?_
    rw [digs_cons] at hp
    rw [bif_dec]
    split
    · rename_i h1
      rw [decide_eq_false (show ¬ 48 ≤ (bl s)[n].toNat by omega)] at hp
      exact hp
    · rename_i h1
      refine StrAt_of hd ?_
      rw [decide_eq_true (show 48 ≤ (bl s)[n].toNat by omega), Bool.true_and] at hp
      unfold F50_J10
      by_cases h2 : 57 < (bl s)[n].toNat
      · rw [decide_eq_false (show ¬ (bl s)[n].toNat ≤ 57 by omega)] at hp
        rw [decide_eq_true (by omega)]
        exact hp
      · rw [decide_eq_true (show (bl s)[n].toNat ≤ 57 by omega), Bool.true_and] at hp
        rw [decide_eq_false (by omega), cond_false, wrapS hn (by omega)]
        exact hW () ⟨hp, d1⟩
theorem F50_is {Z : prodL L50 → Prop} {s : ByteArray} {K : Kn} (hs : s.size ≤ 4294967296) (hZ : 1 < s.size → ∀ t : ByteArray, t.size < s.size → Z (t, ())) (h : K (.bool (decR (bl s))) []) : F50 Z (s, ()) K := by
  have hl := bl_len s
  unfold F50
  dsimp only [Lf.ty, prodL]
  rw [bif_dec]
  cases hb : bl s with
  | nil =>
    rw [hb] at hl h
    simp at hl
    rw [if_neg (by omega)]
    unfold F50_J4
    rw [cond_false]
    exact F50_loop hs (by rw [hb]; exact h)
  | cons c r =>
    rw [hb] at hl h
    simp only [List.length_cons] at hl
    simp only [decR] at h
    by_cases hr : r = []
    · subst hr
      simp at hl
      rw [if_neg (by simp)] at h
      rw [if_neg (by omega)]
      unfold F50_J4
      rw [cond_false]
      exact F50_loop hs (by rw [hb]; exact h)
    · have hr0 : 0 < r.length := List.length_pos_iff.2 hr
      rw [if_pos (by omega)]
      refine StrAt_of (n := 0) (by rw [List.drop_zero]; exact hb) ?_
      unfold F50_J4
      by_cases h45 : c.toNat = 45
      · rw [decide_eq_true (show (c.toNat : Int) = 45 by omega), cond_true, bif_not, bif_dec]
        rw [if_pos ⟨h45, hr⟩] at h
        have hc : c = 45 := UInt8.toNat_inj.1 h45
        have hs0 : s = (⟨#[45, 48]⟩ : ByteArray) ↔ r = [48] := by
          constructor
          · intro e
            rw [e] at hb
            simp [bl] at hb
            exact hb.2.symm
          · intro e
            apply bl_inj
            rw [hb, e, hc]; rfl
        by_cases h0 : r = [48]
        · rw [if_pos (hs0.2 h0)]
          rw [decide_eq_true h0] at h
          exact h
        · rw [if_neg fun e => h0 (hs0.1 e)]
          rw [decide_eq_false h0, Bool.not_false, Bool.true_and] at h
          have he : bl (s.extract (1 : Int).toNat (s.size : Int).toNat) = r := by
            rw [bl_extract, hb, Int.toNat_natCast, List.take_of_length_le (by simp only [List.length_cons]; omega)]; rfl
          have hsz : (s.extract (1 : Int).toNat (s.size : Int).toNat).size < s.size := by rw [← bl_len, he]; omega
          refine ⟨by omega, by omega, by omega, hZ (by omega) _ hsz, ?_⟩
          rw [he]
          cases hd : decR r
          · rw [hd, Bool.false_and] at h; exact h
          · rw [hd, Bool.true_and] at h
            rw [cond_true]
            cases r with
            | nil => exact absurd rfl hr
            | cons c2 r2 =>
              refine StrAt_of (n := 1) (by rw [hb]; rfl) ?_
              rw [show decide ((c2.toNat : Int) = 45) = decide ((c2 :: r2).head? = some 45) from decide_eq_decide.2 (by
                simp only [List.head?_cons, Option.some.injEq]
                rw [← UInt8.toNat_inj]
                show _ ↔ c2.toNat = 45
                omega)]
              exact h
      · rw [decide_eq_false (show ¬ (c.toNat : Int) = 45 by omega), cond_false]
        rw [if_neg (by simp [h45])] at h
        exact F50_loop hs (by rw [hb]; exact h)
def strP (s : ByteArray) : Prop := s.size ≤ 4294967296
def sp50 : Sp := spz50 fun g => strP g.1
theorem sp50_all : ∀ n, (spz50 fun g => strP g.1 ∧ g.1.size < n).Ok Tryd.prog 50 true
  | 0 => ⟨fun _ _ _ h _ => absurd h.2 (Nat.not_lt_zero _), fun _ _ _ => rfl, fun _ => rfl, fun _ _ => ⟨rfl, rfl⟩⟩
  | n + 1 => ⟨by
      rintro ⟨s, ⟨⟩⟩ K X ⟨q1, q2⟩ h
      have q1 : s.size ≤ 4294967296 := q1
      have q2 : s.size < n + 1 := q2
      exact F50_ok _ (sp50_all n) _ _ X (F50_is q1 (fun _ t ht => ⟨(by omega : t.size ≤ 4294967296), (by omega : t.size < n)⟩) h), fun _ _ _ => rfl, fun _ => rfl, fun _ _ => ⟨rfl, rfl⟩⟩
theorem sp50_ok : sp50.Ok Tryd.prog 50 true :=
  ⟨fun g K X hp h => (sp50_all (g.1.size + 1)).calls g K X ⟨hp, Nat.lt_succ_self _⟩ h, fun _ _ _ => rfl, fun _ => rfl, fun _ _ => ⟨rfl, rfl⟩⟩

theorem F47_loop {s d : ByteArray} {K : Kn} (hs : d.size ≤ 4294967296) (h : K (.bool (digs (bl d) && !decide (bl d = []) && (!head48 (bl d) || decide (bl s = [48])))) []) : F47_J14 K s d := by
  have hl := bl_len d
  unfold F47_J14 F47_L8
  refine LoopW.fold (bl d) (fun n (_ : Unit) => (s, d, (d.size : Int), (n : Int), ())) (fun r n _ => K (.bool (digs r && !decide (bl d = []) && (!head48 (bl d) || decide (bl s = [48])))) [] ∧ (bl d).drop n = r) (a0 := ()) rfl ⟨h, rfl⟩ (fun _ hp W => ?_) (fun n hn r _ hr hp W hW => ?_)
  · unfold F47_B8
    rw [bif_dec, if_neg (by dsimp only; omega), bif_not, bif_dec]
    have hp := hp.1
    dsimp only
    have hd0 : d = (⟨#[]⟩ : ByteArray) ↔ bl d = [] := ⟨fun e => by rw [e]; rfl, fun e => bl_inj (by rw [e]; rfl)⟩
    cases hb : bl d with
    | nil =>
      rw [hb] at hp
      rw [if_pos (hd0.2 hb)]
      exact hp
    | cons c r =>
      rw [hb] at hp
      rw [if_neg (fun e => by rw [hd0.1 e] at hb; cases hb)]
      refine StrAt_of (n := 0) (by rw [List.drop_zero]; exact hb) ?_
      simp only [digs, List.all_nil, Bool.true_and, reduceCtorEq, decide_false, Bool.not_false, head48] at hp
      have e1 : decide ((c.toNat : Int) = 48) = decide (c.toNat = 48) := decide_eq_decide.2 (by omega)
      have e2 : decide (s = (⟨#[48]⟩ : ByteArray)) = decide (bl s = [48]) := decide_eq_decide.2 ⟨fun e => by rw [e]; rfl, fun e => bl_inj (by rw [e]; rfl)⟩
      rw [bif_not, e1, e2]
      cases hx : decide (c.toNat = 48)
      · rw [hx] at hp; exact hp
      · rw [hx] at hp; exact hp
  · unfold F47_B8
    obtain ⟨hp, hd⟩ := hp
    obtain ⟨d1, _, _⟩ := drop_next hd
    rw [bif_dec, if_pos (by dsimp only; omega)]
    dsimp only
    refine StrAt_of hd ?_
    rw [digs_cons] at hp
    rw [bif_dec]
    split
    · rename_i h1
      rw [decide_eq_false (show ¬ 48 ≤ (bl d)[n].toNat by omega)] at hp
      exact hp
    · rename_i h1
      refine StrAt_of hd ?_
      rw [decide_eq_true (show 48 ≤ (bl d)[n].toNat by omega), Bool.true_and] at hp
      unfold F47_J12
      by_cases h2 : 57 < (bl d)[n].toNat
      · rw [decide_eq_false (show ¬ (bl d)[n].toNat ≤ 57 by omega)] at hp
        rw [decide_eq_true (by omega)]
        exact hp
      · rw [decide_eq_true (show (bl d)[n].toNat ≤ 57 by omega), Bool.true_and] at hp
        rw [decide_eq_false (by omega), cond_false, wrapS hn (by omega)]
        exact hW () ⟨hp, d1⟩
theorem F47_is {s : ByteArray} {K : Kn} (hs : s.size ≤ 4294967296) (h : K (.bool (canR (bl s))) []) : F47 (s, ()) K := by
  have hl := bl_len s
  unfold F47
  dsimp only [Lf.ty, prodL]
  unfold canR at h
  have hsz : (⟨#[45]⟩ : ByteArray).size = 1 := rfl
  have key : (bl s).head? ≠ some 45 → F47_J5 K (s, ()) s (⟨#[45]⟩ : ByteArray) false := fun hn => by
    rw [if_neg hn] at h
    exact F47_loop hs h
  rw [bif_dec, hsz]
  cases hb : bl s with
  | nil =>
    rw [hb] at hl
    simp at hl
    rw [if_neg (by omega)]
    exact key (by rw [hb]; simp)
  | cons c r =>
    rw [hb] at hl
    simp only [List.length_cons] at hl
    rw [if_pos (by omega)]
    refine ⟨by omega, by omega, by omega, ?_⟩
    have e1 : bl (s.extract (0 : Int).toNat ((1 : Nat) : Int).toNat) = [c] := by rw [bl_extract, hb]; rfl
    have e2 : decide (s.extract (0 : Int).toNat ((1 : Nat) : Int).toNat = (⟨#[45]⟩ : ByteArray)) = decide (c = 45) := decide_eq_decide.2 ⟨fun e => by
      rw [e] at e1
      simp [bl] at e1
      exact e1.symm, fun e => bl_inj (by rw [e1, e]; rfl)⟩
    rw [e2]
    by_cases hc : c = 45
    · rw [decide_eq_true hc]
      unfold F47_J5
      rw [cond_true, hsz]
      refine ⟨by omega, by omega, by omega, ?_⟩
      have he : bl (s.extract ((1 : Nat) : Int).toNat (s.size : Int).toNat) = r := by
        rw [bl_extract, hb, Int.toNat_natCast, Int.toNat_natCast, List.take_of_length_le (by simp only [List.length_cons]; omega)]; rfl
      rw [hb, hc] at h
      simp only [List.head?_cons, if_true, List.tail_cons] at h
      refine F47_loop (by rw [← bl_len, he]; omega) ?_
      rw [he, hb, hc]
      exact h
    · rw [decide_eq_false hc]
      exact key (by rw [hb]; simpa using hc)
def sp47 : Sp := ⟨S47, L47, fun g => strP g.1, fun g => .bool (canR (bl g.1)), fun _ => none⟩
theorem sp47_ok : sp47.Ok Tryd.prog 47 true :=
  ⟨by rintro ⟨s, ⟨⟩⟩ K X q1 h; exact F47_ok _ _ X (F47_is q1 h), fun _ _ _ => rfl, fun _ => rfl, fun _ _ => ⟨rfl, rfl⟩⟩
end Go.Proofs.YtofjpelbjehddaaDoor

/- What functions come to: printed by exf.py. -/
namespace Go.Proofs.YtofjpelbjehddaaDoor
set_option linter.unusedVariables false
set_option linter.unusedSimpArgs false
set_option linter.unusedSectionVars false
open Go.RowKit
attribute [local irreducible] dfun dround
/-- (quilt/quiltref01.reader).read -/
def H68 : List (Nat × Hint) := [(13, ⟨[((2, []), none), ((4, []), none), ((5, []), none), ((8, []), none), ((8, [2]), some .sexp)], [(1, .leaf), (2, .pt 0 0), (4, .pt 1 0), (5, .pt 2 0), (8, .pt 3 0)], [.cells [.leaf, .leaf, .leaf, .leaf], .cells [.leaf, .leaf, .nil], .cells [.leaf, .leaf, .leaf, .leaf], .cells [.leaf, .leaf, .oa .sexp 4], .arr .sexp], [.int .i64, .str, .int .i64, .int .i64, .int .i64, .bool, .str, .str, .int .i64, .int .i64, .int .i64, .bool, .str, .sl .sexp]⟩)]
def J68 : List (Nat × Hint) := [(5, ⟨[((2, []), none), ((4, []), none), ((5, []), none)], [(1, .leaf), (2, .pt 0 0), (4, .pt 1 0), (5, .pt 2 0), (26, .leaf)], [.cells [.leaf, .leaf, .leaf, .leaf], .cells [.leaf, .leaf, .nil], .cells [.leaf, .leaf, .leaf, .leaf]], [.int .i64, .bool, .str, .int .i64, .int .i64, .int .i64, .bool, .str, .str, .int .i64, .int .i64, .int .i64]⟩), (10, ⟨[((4, []), none), ((5, []), none), ((7, []), none)], [(4, .pt 0 0), (5, .pt 1 0), (6, .leaf), (7, .pt 2 0)], [.cells [.leaf, .leaf, .nil], .cells [.leaf, .leaf, .leaf, .leaf], .cells [.leaf, .leaf, .leaf, .leaf]], [.str, .bool, .str, .str, .int .i64, .int .i64, .int .i64, .str, .int .i64, .int .i64, .int .i64]⟩), (14, ⟨[((2, []), none), ((4, []), none), ((5, []), none), ((8, []), none), ((8, [2]), none)], [(1, .leaf), (2, .pt 0 0), (4, .pt 1 0), (5, .pt 2 0), (8, .pt 3 0)], [.cells [.leaf, .leaf, .leaf, .leaf], .cells [.leaf, .leaf, .nil], .cells [.leaf, .leaf, .leaf, .leaf], .cells [.leaf, .leaf, .oa .sexp 4], .arr .sexp], [.int .i64, .str, .int .i64, .int .i64, .int .i64, .bool, .str, .str, .int .i64, .int .i64, .int .i64, .bool, .str, .sl .sexp]⟩), (15, ⟨[((2, []), none), ((4, []), none), ((5, []), none), ((8, []), none), ((9, []), none), ((10, []), none), ((8, [2]), none)], [(1, .leaf), (2, .pt 0 0), (4, .pt 1 0), (5, .pt 2 0), (8, .pt 3 0), (9, .pt 4 0), (10, .pt 5 0)], [.cells [.leaf, .leaf, .leaf, .leaf], .cells [.leaf, .leaf, .nil], .cells [.leaf, .leaf, .leaf, .leaf], .cells [.leaf, .leaf, .oa .sexp 6], .cells [.leaf, .leaf, .leaf], .cells [.leaf, .leaf, .leaf, .leaf], .arr .sexp], [.int .i64, .str, .int .i64, .int .i64, .int .i64, .bool, .str, .str, .int .i64, .int .i64, .int .i64, .bool, .str, .bool, .str, .sl .sexp, .str, .int .i64, .int .i64, .int .i64, .sl .sexp]⟩), (17, ⟨[((2, []), none), ((4, []), none), ((5, []), none), ((8, []), none), ((10, []), none), ((8, [2]), none)], [(1, .leaf), (2, .pt 0 0), (4, .pt 1 0), (5, .pt 2 0), (8, .pt 3 0), (10, .pt 4 0)], [.cells [.leaf, .leaf, .leaf, .leaf], .cells [.leaf, .leaf, .nil], .cells [.leaf, .leaf, .leaf, .leaf], .cells [.leaf, .leaf, .oa .sexp 5], .cells [.leaf, .leaf, .leaf, .leaf], .arr .sexp], [.int .i64, .str, .int .i64, .int .i64, .int .i64, .bool, .str, .str, .int .i64, .int .i64, .int .i64, .bool, .str, .str, .int .i64, .int .i64, .int .i64, .sl .sexp]⟩), (19, ⟨[((2, []), none), ((4, []), none), ((5, []), none), ((8, []), none), ((10, []), none), ((8, [2]), none)], [(1, .leaf), (2, .pt 0 0), (4, .pt 1 0), (5, .pt 2 0), (8, .pt 3 0), (10, .pt 4 0)], [.cells [.leaf, .leaf, .leaf, .leaf], .cells [.leaf, .leaf, .nil], .cells [.leaf, .leaf, .leaf, .leaf], .cells [.leaf, .leaf, .oa .sexp 5], .cells [.leaf, .leaf, .leaf, .leaf], .arr .sexp], [.int .i64, .str, .int .i64, .int .i64, .int .i64, .bool, .str, .str, .int .i64, .int .i64, .int .i64, .bool, .str, .str, .int .i64, .int .i64, .int .i64, .sl .sexp]⟩), (20, ⟨[((2, []), none), ((4, []), none), ((5, []), none), ((8, []), none), ((8, [2]), none)], [(2, .pt 0 0), (4, .pt 1 0), (5, .pt 2 0), (8, .pt 3 0)], [.cells [.leaf, .leaf, .leaf, .leaf], .cells [.leaf, .leaf, .nil], .cells [.leaf, .leaf, .leaf, .leaf], .cells [.leaf, .leaf, .oa .sexp 4], .arr .sexp], [.str, .int .i64, .int .i64, .int .i64, .bool, .str, .str, .int .i64, .int .i64, .int .i64, .bool, .str, .sl .sexp]⟩)]
abbrev S68 : List Sh := [.ag [.leaf, .leaf, .leaf, .leaf], .leaf]
abbrev L68 : List Lf := [.str, .int .i64, .int .i64, .int .i64, .int .i64]
abbrev O68 : List ObSh := []
def rwz68 (Z : prodL L68 → Prop) : Raw := ⟨S68, O68, L68, 0, fun g K X => Z g ∧ readF g K X⟩
def F68_J8 (K : Kn) (s_7 : ByteArray) (t1_7 : Bool) (t2_7 : ByteArray) (t12_7 : ByteArray) (t22_7 : Int) (t3_7 : Int) (t4_7 : Int) (rest1_7 : ByteArray) (rest2_7 : Int) (rest3_7 : Int) (rest4_7 : Int) : Prop :=
  K (.tu [.ag [.bool false, .str s_7, .nil], .ag [.str rest1_7, .int .i64 rest2_7, .int .i64 rest3_7, .int .i64 rest4_7]]) []
def F68_J42 (K : Kn) (r1_41 : ByteArray) (r2_41 : Int) (r3_41 : Int) (r4_41 : Int) (t1_41 : Bool) (t2_41 : ByteArray) (t12_41 : ByteArray) (t22_41 : Int) (t3_41 : Int) (t4_41 : Int) (x1_41 : Bool) (x2_41 : ByteArray) (x_41 : List Sx) : Prop :=
  K (.tu [.ag [.bool x1_41, .str x2_41, .sl false .sexp x_41], .ag [.str r1_41, .int .i64 (IntKind.i64.wrap (r2_41 + 1)), .int .i64 r3_41, .int .i64 r4_41]]) []
def F68_J37 (K : Kn) (W26 : prodL [.int .i64, .str, .int .i64, .int .i64, .int .i64, .bool, .str, .str, .int .i64, .int .i64, .int .i64, .bool, .str, .sl .sexp] → Prop) (depth_36 : Int) (r1_36 : ByteArray) (r2_36 : Int) (r3_36 : Int) (r4_36 : Int) (t1_36 : Bool) (t2_36 : ByteArray) (t12_36 : ByteArray) (t22_36 : Int) (t3_36 : Int) (t4_36 : Int) (x1_36 : Bool) (x2_36 : ByteArray) (rest1_36 : ByteArray) (rest2_36 : Int) (rest3_36 : Int) (rest4_36 : Int) (x_36 : List Sx) : Prop :=
  W26 (depth_36, rest1_36, rest2_36, rest3_36, rest4_36, t1_36, t2_36, t12_36, t22_36, t3_36, t4_36, x1_36, x2_36, x_36, ())
def F68_J38 (K : Kn) (W26 : prodL [.int .i64, .str, .int .i64, .int .i64, .int .i64, .bool, .str, .str, .int .i64, .int .i64, .int .i64, .bool, .str, .sl .sexp] → Prop) (depth_35 : Int) (r1_35 : ByteArray) (r2_35 : Int) (r3_35 : Int) (r4_35 : Int) (t1_35 : Bool) (t2_35 : ByteArray) (t12_35 : ByteArray) (t22_35 : Int) (t3_35 : Int) (t4_35 : Int) (x1_35 : Bool) (x2_35 : ByteArray) (rest1_35 : ByteArray) (rest2_35 : Int) (rest3_35 : Int) (rest4_35 : Int) (x_35 : List Sx) : Prop :=
  bif decide (r2_35 = (r1_35.size : Int)) then (
    F68_J37 K W26 depth_35 r1_35 r2_35 r3_35 r4_35 t1_35 t2_35 t12_35 t22_35 t3_35 t4_35 x1_35 x2_35 rest1_35 rest2_35 rest3_35 11 x_35)
  else (
    F68_J37 K W26 depth_35 r1_35 r2_35 r3_35 r4_35 t1_35 t2_35 t12_35 t22_35 t3_35 t4_35 x1_35 x2_35 rest1_35 rest2_35 rest3_35 rest4_35 x_35)
def F68_J39 (K : Kn) (W26 : prodL [.int .i64, .str, .int .i64, .int .i64, .int .i64, .bool, .str, .str, .int .i64, .int .i64, .int .i64, .bool, .str, .sl .sexp] → Prop) (depth_34 : Int) (r1_34 : ByteArray) (r2_34 : Int) (r3_34 : Int) (r4_34 : Int) (t1_34 : Bool) (t2_34 : ByteArray) (t12_34 : ByteArray) (t22_34 : Int) (t3_34 : Int) (t4_34 : Int) (x1_34 : Bool) (x2_34 : ByteArray) (y1_34 : Bool) (y2_34 : ByteArray) (y3_34 : List Sx) (rest1_34 : ByteArray) (rest2_34 : Int) (rest3_34 : Int) (rest4_34 : Int) (x_34 : List Sx) : Prop :=
  bif decide (rest4_34 = 0) then (
    Room (x_34.length + [(⟨y1_34, y2_34, y3_34⟩ : Sx)].length) 48 (
    F68_J38 K W26 depth_34 r1_34 r2_34 r3_34 r4_34 t1_34 t2_34 t12_34 t22_34 t3_34 t4_34 x1_34 x2_34 rest1_34 rest2_34 rest3_34 rest4_34 (x_34 ++ [(⟨y1_34, y2_34, y3_34⟩ : Sx)])))
  else (
    F68_J38 K W26 depth_34 r1_34 r2_34 r3_34 r4_34 t1_34 t2_34 t12_34 t22_34 t3_34 t4_34 x1_34 x2_34 rest1_34 rest2_34 rest3_34 rest4_34 x_34)
def F68_J40 (K : Kn) (W26 : prodL [.int .i64, .str, .int .i64, .int .i64, .int .i64, .bool, .str, .str, .int .i64, .int .i64, .int .i64, .bool, .str, .sl .sexp] → Prop) (Z : prodL L68 → Prop) (depth_28 : Int) (r1_28 : ByteArray) (r2_28 : Int) (r3_28 : Int) (r4_28 : Int) (t1_28 : Bool) (t2_28 : ByteArray) (t12_28 : ByteArray) (t22_28 : Int) (t3_28 : Int) (t4_28 : Int) (x1_28 : Bool) (x2_28 : ByteArray) (x_28 : List Sx) : Prop :=
  Z (r1_28, r2_28, r3_28, r4_28, IntKind.i64.wrap (depth_28 - 1), ()) ∧
  Res.go (rdS (IntKind.i64.wrap (depth_28 - 1)).toNat (20000 - r3_28).toNat ((bl r1_28).drop r2_28.toNat)) (fun a29 =>
  F68_J39 K W26 depth_28 r1_28 r2_28 r3_28 r4_28 t1_28 t2_28 t12_28 t22_28 t3_28 t4_28 x1_28 x2_28 a29.1.isList a29.1.atom a29.1.list r1_28 ((r1_28.size : Int) - (a29.2.2.length : Int)) (20000 - (a29.2.1 : Int)) 0 x_28) (fun e30 => ∀ (y33 : Sx) (p31 m32 : Int),
  F68_J39 K W26 depth_28 r1_28 r2_28 r3_28 r4_28 t1_28 t2_28 t12_28 t22_28 t3_28 t4_28 x1_28 x2_28 y33.isList y33.atom y33.list r1_28 p31 m32 e30 x_28)
def F68_B26 (K : Kn) (Z : prodL L68 → Prop) (W26 : prodL [.int .i64, .str, .int .i64, .int .i64, .int .i64, .bool, .str, .str, .int .i64, .int .i64, .int .i64, .bool, .str, .sl .sexp] → Prop) (depth_25 : Int) (r1_25 : ByteArray) (r2_25 : Int) (r3_25 : Int) (r4_25 : Int) (t1_25 : Bool) (t2_25 : ByteArray) (t12_25 : ByteArray) (t22_25 : Int) (t3_25 : Int) (t4_25 : Int) (x1_25 : Bool) (x2_25 : ByteArray) (x_25 : List Sx) : Prop :=
  bif decide (r4_25 = 0) then (
    bif decide (r2_25 = (r1_25.size : Int)) then (
      F68_J40 K W26 Z depth_25 r1_25 r2_25 r3_25 r4_25 t1_25 t2_25 t12_25 t22_25 t3_25 t4_25 x1_25 x2_25 x_25)
    else (
      StrAt r1_25 r2_25 fun b27 =>
      bif !decide (b27 = 41) then (
    F68_J40 K W26 Z depth_25 r1_25 r2_25 r3_25 r4_25 t1_25 t2_25 t12_25 t22_25 t3_25 t4_25 x1_25 x2_25 x_25)
  else (
    F68_J42 K r1_25 r2_25 r3_25 r4_25 t1_25 t2_25 t12_25 t22_25 t3_25 t4_25 x1_25 x2_25 x_25)))
  else (
    F68_J42 K r1_25 r2_25 r3_25 r4_25 t1_25 t2_25 t12_25 t22_25 t3_25 t4_25 x1_25 x2_25 x_25)
def F68_L26 (K : Kn) (Z : prodL L68 → Prop) (g : prodL [.int .i64, .str, .int .i64, .int .i64, .int .i64, .bool, .str, .str, .int .i64, .int .i64, .int .i64, .bool, .str, .sl .sexp]) : Prop :=
  LoopW (γ := prodL [.int .i64, .str, .int .i64, .int .i64, .int .i64, .bool, .str, .str, .int .i64, .int .i64, .int .i64, .bool, .str, .sl .sexp]) (fun V y => F68_B26 K Z V y.1 y.2.1 y.2.2.1 y.2.2.2.1 y.2.2.2.2.1 y.2.2.2.2.2.1 y.2.2.2.2.2.2.1 y.2.2.2.2.2.2.2.1 y.2.2.2.2.2.2.2.2.1 y.2.2.2.2.2.2.2.2.2.1 y.2.2.2.2.2.2.2.2.2.2.1 y.2.2.2.2.2.2.2.2.2.2.2.1 y.2.2.2.2.2.2.2.2.2.2.2.2.1 y.2.2.2.2.2.2.2.2.2.2.2.2.2.1) g
def F68_J2 (K : Kn) (Z : prodL L68 → Prop) (depth_1 : Int) (t_1 : Bool) (r1_1 : ByteArray) (r2_1 : Int) (r3_1 : Int) (r4_1 : Int) (t1_1 : Bool) (t2_1 : ByteArray) (t12_1 : ByteArray) (t22_1 : Int) (t3_1 : Int) (t4_1 : Int) : Prop :=
  bif t_1 then (
    K (.tu [.ag [.bool false, .str (⟨#[]⟩ : ByteArray), .nil], .ag [.str r1_1, .int .i64 r2_1, .int .i64 r3_1, .int .i64 12]]) [])
  else (
    StrAt r1_1 r2_1 fun b3 =>
  bif !decide (b3 = 40) then (
    atomPre (r1_1, r2_1, IntKind.i64.wrap (r3_1 - 1), r4_1, ()) ∧
    Res.go (atomR ((bl r1_1).drop r2_1.toNat)) (fun a4 =>
    F68_J8 K (⟨a4.1.toArray⟩ : ByteArray) t1_1 t2_1 t12_1 t22_1 t3_1 t4_1 r1_1 ((r1_1.size : Int) - (a4.2.length : Int)) (IntKind.i64.wrap (r3_1 - 1)) 0) (fun e5 => ∀ p6 : Int,
    F68_J8 K (⟨#[]⟩ : ByteArray) t1_1 t2_1 t12_1 t22_1 t3_1 t4_1 r1_1 p6 (IntKind.i64.wrap (r3_1 - 1)) e5))
  else (
    F68_L26 K Z (depth_1, r1_1, IntKind.i64.wrap (r2_1 + 1), IntKind.i64.wrap (r3_1 - 1), r4_1, t1_1, t2_1, t12_1, t22_1, t3_1, t4_1, true, (⟨#[]⟩ : ByteArray), [], ())))
def F68 (Z : prodL L68 → Prop) (g : prodL L68) (K : Kn) : Prop :=
  bif decide (g.2.1 = (g.1.size : Int)) then (
    K (.tu [.ag [.bool false, .str (⟨#[]⟩ : ByteArray), .nil], .ag [.str g.1, .int .i64 g.2.1, .int .i64 g.2.2.1, .int .i64 11]]) [])
  else (
    bif decide (g.2.2.2.2.1 = 0) then (
    F68_J2 K Z g.2.2.2.2.1 true g.1 g.2.1 g.2.2.1 g.2.2.2.1 false (⟨#[]⟩ : ByteArray) (⟨#[]⟩ : ByteArray) 0 0 0)
  else (
    F68_J2 K Z g.2.2.2.2.1 (decide (g.2.2.1 = 0)) g.1 g.2.1 g.2.2.1 g.2.2.2.1 false (⟨#[]⟩ : ByteArray) (⟨#[]⟩ : ByteArray) 0 0 0))
theorem F68_eq (Z : prodL L68 → Prop) (g : prodL L68) (K X : Kn) : F68 Z g K = dfun D (gamX [(68, rwz68 Z), (79, rw79)] []) (isRaw [(68, rwz68 Z), (79, rw79)]) H68 J68 102 [.cell 4 53, .cell 5 109] (codeOf Tryd.f68) (argsT S68 L68 g) (storeT S68 O68 L68 g) (settle0 K) X 0 := by kernel_rfl
theorem F68_ok (Z : prodL L68 → Prop) (hZ : (rwz68 Z).Ok Tryd.prog 68) (g : prodL L68) (K X : Kn) (h : F68 Z g K) : FCalls Tryd.prog 68 (argsT S68 L68 g) (storeT S68 O68 L68 g) K X 0 :=
  FCalls.settle0 (dfun_sound (Γ := gamX [(68, rwz68 Z), (79, rw79)] []) (mu := isRaw [(68, rwz68 Z), (79, rw79)]) (H := H68) (J := J68) D_ok (gamX_ok (rs := [(68, rwz68 Z), (79, rw79)]) (l := []) (by intro p hp; simp only [List.mem_cons, List.not_mem_nil, or_false] at hp; rcases hp with rfl | rfl <;> first | exact hZ | exact rw79_ok) (fun p hp => by cases hp)) gamX_det rfl Tryd.func68 (c := codeOf Tryd.f68) rfl Tryd.ntmps68 (rs := [.cell 4 53, .cell 5 109]) Tryd.results68 (by unfold enters; rw [Tryd.func68]; kernel_rfl) (Nat.le_of_ble_eq_true (by kernel_rfl)) (X := X) (c0 := 0) (Eq.mp (F68_eq Z g K X) h))
end Go.Proofs.YtofjpelbjehddaaDoor

/- What functions come to: printed by exf.py. -/
namespace Go.Proofs.YtofjpelbjehddaaDoor
set_option linter.unusedVariables false
set_option linter.unusedSimpArgs false
set_option linter.unusedSectionVars false
open Go.RowKit
attribute [local irreducible] dfun dround
/-- (*quilt/csexp.reader).sexp -/
def H64 : List (Nat × Hint) := [(13, ⟨[((4, []), none), ((7, []), none), ((7, [2]), some .sexp)], [(0, .pt 0 0), (1, .leaf), (4, .pt 1 0), (7, .pt 2 0)], [.cells [.leaf, .leaf, .leaf], .cells [.leaf, .leaf, .nil], .cells [.leaf, .leaf, .oa .sexp 3], .arr .sexp], [.int .i64, .str, .int .i64, .int .i64, .bool, .str, .bool, .str, .sl .sexp]⟩)]
def J64 : List (Nat × Hint) := [(4, ⟨[((4, []), none)], [(0, .pt 0 0), (1, .leaf), (4, .pt 1 0), (5, .leaf), (25, .leaf)], [.cells [.leaf, .leaf, .leaf], .cells [.leaf, .leaf, .nil]], [.int .i64, .int .u8, .bool, .str, .int .i64, .int .i64, .bool, .str]⟩)]
abbrev S64 : List Sh := [.pt 0 0, .leaf]
abbrev L64 : List Lf := [.int .i64, .str, .int .i64, .int .i64]
abbrev O64 : List ObSh := [.cells [.leaf, .leaf, .leaf]]
def rwz64 (Z : prodL L64 → Prop) : Raw := ⟨S64, O64, L64, 0, fun g K X => Z g ∧ sexpF g K X⟩
def F64_B17 (K X : Kn) (Z : prodL L64 → Prop) (W17 : prodL [.int .i64, .str, .int .i64, .int .i64, .bool, .str, .bool, .str, .sl .sexp] → Prop) (level_16 : Int) (o01_16 : ByteArray) (o02_16 : Int) (o03_16 : Int) (t1_16 : Bool) (t2_16 : ByteArray) (out1_16 : Bool) (out2_16 : ByteArray) (out_16 : List Sx) : Prop :=
  nextPre (o01_16, o02_16, o03_16, ()) ∧
  Res.go (headR ((bl o01_16).drop o02_16.toNat)) (fun a18 =>
  bif !decide ((a18.toNat : Int) = 41) then (
    Z (IntKind.i64.wrap (level_16 + 1), o01_16, o02_16, o03_16, ()) ∧
  Res.go (rdS (13 - (IntKind.i64.wrap (level_16 + 1))).toNat o03_16.toNat ((bl o01_16).drop o02_16.toNat)) (fun a20 =>
  Room (out_16.length + [(⟨a20.1.isList, a20.1.atom, a20.1.list⟩ : Sx)].length) 48 (
  W17 (level_16, o01_16, (o01_16.size : Int) - (a20.2.2.length : Int), (a20.2.1 : Int), t1_16, t2_16, out1_16, out2_16, out_16 ++ [(⟨a20.1.isList, a20.1.atom, a20.1.list⟩ : Sx)], ()))) (fun e21 => ∀ (p22 m23 : Int),
  ∀ _ : Tm,
  X (.ic 100 (.ag [.int .i64 e21])) [some (.cells [.str o01_16, .int .i64 p22, .int .i64 m23])]))
  else (
    K (.ag [.bool out1_16, .str out2_16, .sl false .sexp out_16]) [some (.cells [.str o01_16, .int .i64 (IntKind.i64.wrap (o02_16 + 1)), .int .i64 o03_16])])) (fun e19 =>
  X (.ic 100 (.ag [.int .i64 e19])) [some (.cells [.str o01_16, .int .i64 o02_16, .int .i64 o03_16])])
def F64_L17 (K X : Kn) (Z : prodL L64 → Prop) (g : prodL [.int .i64, .str, .int .i64, .int .i64, .bool, .str, .bool, .str, .sl .sexp]) : Prop :=
  LoopW (γ := prodL [.int .i64, .str, .int .i64, .int .i64, .bool, .str, .bool, .str, .sl .sexp]) (fun V y => F64_B17 K X Z V y.1 y.2.1 y.2.2.1 y.2.2.2.1 y.2.2.2.2.1 y.2.2.2.2.2.1 y.2.2.2.2.2.2.1 y.2.2.2.2.2.2.2.1 y.2.2.2.2.2.2.2.2.1) g
def F64_J4 (K X : Kn) (Z : prodL L64 → Prop) (level_3 : Int) (c_3 : Int) (t_3 : Bool) (o01_3 : ByteArray) (o02_3 : Int) (o03_3 : Int) (t1_3 : Bool) (t2_3 : ByteArray) : Prop :=
  bif t_3 then (
    X (.ic 100 (.ag [.int .i64 12])) [some (.cells [.str o01_3, .int .i64 o02_3, .int .i64 o03_3])])
  else (
    bif !decide (c_3 = 40) then (
    nextPre (o01_3, o02_3, o03_3, ()) ∧
    Res.go (numR true 0 ((bl o01_3).drop o02_3.toNat)) (fun a5 =>
    bif decide (IntKind.i64.wrap ((o01_3.size : Int) - ((o01_3.size : Int) - (a5.2.length : Int))) < (a5.1 : Int)) then (
      X (.ic 100 (.ag [.int .i64 11])) [some (.cells [.str o01_3, .int .i64 ((o01_3.size : Int) - (a5.2.length : Int)), .int .i64 o03_3])])
    else (
      (0 : Int) ≤ IntKind.i64.wrap ((IntKind.i64.wrap (((o01_3.size : Int) - (a5.2.length : Int)) + (a5.1 : Int))) - (a5.1 : Int)) ∧ IntKind.i64.wrap ((IntKind.i64.wrap (((o01_3.size : Int) - (a5.2.length : Int)) + (a5.1 : Int))) - (a5.1 : Int)) ≤ IntKind.i64.wrap (((o01_3.size : Int) - (a5.2.length : Int)) + (a5.1 : Int)) ∧ IntKind.i64.wrap (((o01_3.size : Int) - (a5.2.length : Int)) + (a5.1 : Int)) ≤ (o01_3.size : Int) ∧
    K (.ag [.bool false, .str (o01_3.extract (IntKind.i64.wrap ((IntKind.i64.wrap (((o01_3.size : Int) - (a5.2.length : Int)) + (a5.1 : Int))) - (a5.1 : Int))).toNat (IntKind.i64.wrap (((o01_3.size : Int) - (a5.2.length : Int)) + (a5.1 : Int))).toNat), .nil]) [some (.cells [.str o01_3, .int .i64 (IntKind.i64.wrap (((o01_3.size : Int) - (a5.2.length : Int)) + (a5.1 : Int))), .int .i64 o03_3])])) (fun e6 => ∀ p7 : Int,
    X (.ic 100 (.ag [.int .i64 e6])) [some (.cells [.str o01_3, .int .i64 p7, .int .i64 o03_3])]))
  else (
    F64_L17 K X Z (level_3, o01_3, IntKind.i64.wrap (o02_3 + 1), o03_3, t1_3, t2_3, true, (⟨#[]⟩ : ByteArray), [], ())))
def F64 (Z : prodL L64 → Prop) (g : prodL L64) (K X : Kn) : Prop :=
  nextPre (g.2.1, g.2.2.1, g.2.2.2.1, ()) ∧
  Res.go (headR ((bl g.2.1).drop g.2.2.1.toNat)) (fun a1 =>
  bif decide (20000 < IntKind.i64.wrap (g.2.2.2.1 + 1)) then (
    F64_J4 K X Z g.1 (a1.toNat : Int) true g.2.1 g.2.2.1 (IntKind.i64.wrap (g.2.2.2.1 + 1)) false (⟨#[]⟩ : ByteArray))
  else (
    F64_J4 K X Z g.1 (a1.toNat : Int) (decide (12 < g.1)) g.2.1 g.2.2.1 (IntKind.i64.wrap (g.2.2.2.1 + 1)) false (⟨#[]⟩ : ByteArray))) (fun e2 =>
  X (.ic 100 (.ag [.int .i64 e2])) [some (.cells [.str g.2.1, .int .i64 g.2.2.1, .int .i64 g.2.2.2.1])])
theorem F64_eq (Z : prodL L64 → Prop) (g : prodL L64) (K X : Kn) : F64 Z g K X = dfun D (gamX [(64, rwz64 Z), (71, rw71), (72, rw72)] []) (isRaw [(64, rwz64 Z), (71, rw71), (72, rw72)]) H64 J64 98 [.cell 4 53] (codeOf Tryd.f64) (argsT S64 L64 g) (storeT S64 O64 L64 g) (settleG (storeT S64 O64 L64 g).length 0 K) (settleD (storeT S64 O64 L64 g).length 0 X) 0 := by kernel_rfl
theorem F64_ok (Z : prodL L64 → Prop) (hZ : (rwz64 Z).Ok Tryd.prog 64) (g : prodL L64) (K X : Kn) (h : F64 Z g K X) : FCalls Tryd.prog 64 (argsT S64 L64 g) (storeT S64 O64 L64 g) K X 0 :=
  FCalls.settleX (FCalls.settleG (dfun_sound (Γ := gamX [(64, rwz64 Z), (71, rw71), (72, rw72)] []) (mu := isRaw [(64, rwz64 Z), (71, rw71), (72, rw72)]) (H := H64) (J := J64) D_ok (gamX_ok (rs := [(64, rwz64 Z), (71, rw71), (72, rw72)]) (l := []) (by intro p hp; simp only [List.mem_cons, List.not_mem_nil, or_false] at hp; rcases hp with rfl | rfl | rfl <;> first | exact hZ | exact rw71_ok | exact rw72_ok) (fun p hp => by cases hp)) gamX_det rfl Tryd.func64 (c := codeOf Tryd.f64) rfl Tryd.ntmps64 (rs := [.cell 4 53]) Tryd.results64 (by unfold enters; rw [Tryd.func64]; kernel_rfl) (Nat.le_of_ble_eq_true (by kernel_rfl)) (X := (settleD (storeT S64 O64 L64 g).length 0 X)) (c0 := 0) (Eq.mp (F64_eq Z g K X) h)))
end Go.Proofs.YtofjpelbjehddaaDoor

/-
  Csexp: what the reader yields, in general.
-/
namespace Go.Proofs.YtofjpelbjehddaaDoor
set_option linter.unusedVariables false
set_option linter.unusedSimpArgs false
set_option linter.unusedSectionVars false
open Go.RowKit

theorem numR_ok : ∀ (l : List UInt8) (first : Bool) (n m : Nat) (r : List UInt8), numR first n l = .ok (m, r) → (∃ p, p ≠ [] ∧ l = p ++ r) ∧ (n ≤ 65536 → m ≤ 65536)
  | [], _, _, _, _, h => by simp [numR] at h
  | c :: l, first, n, m, r, h => by
    simp only [numR] at h
    split at h
    · simp only [Res.ok.injEq, Prod.mk.injEq] at h
      obtain ⟨rfl, rfl⟩ := h
      exact ⟨⟨[c], by simp, rfl⟩, fun h => h⟩
    · split at h
      · cases h
      · split at h
        · cases h
        · rename_i h3
          obtain ⟨⟨p, _, hp⟩, hm⟩ := numR_ok l false _ m r h
          exact ⟨⟨c :: p, by simp, by rw [hp]; rfl⟩, fun _ => hm (by omega)⟩
theorem numR_err : ∀ (l : List UInt8) (first : Bool) (n : Nat) (e : Int), numR first n l = .err e → e = 11 ∨ e = 12
  | [], _, _, _, h => by simp only [numR, Res.err.injEq] at h; exact .inl h.symm
  | c :: l, first, n, e, h => by
    simp only [numR] at h
    split at h
    · cases h
    · split at h
      · simp only [Res.err.injEq] at h; exact .inr h.symm
      · split at h
        · simp only [Res.err.injEq] at h; exact .inr h.symm
        · exact numR_err l false _ e h
theorem atomR_ok {l a r : List UInt8} (h : atomR l = .ok (a, r)) : ∃ p, p ≠ [] ∧ l = p ++ a ++ r := by
  unfold atomR atomG at h
  split at h
  · cases h
  · rename_i n q hq
    split at h
    · cases h
    · simp only [Res.ok.injEq, Prod.mk.injEq] at h
      obtain ⟨rfl, rfl⟩ := h
      obtain ⟨⟨p, h1, h2⟩, _⟩ := numR_ok l true 0 n q hq
      exact ⟨p, h1, by rw [List.append_assoc, List.take_append_drop]; exact h2⟩
theorem atomR_err {l : List UInt8} {e : Int} (h : atomR l = .err e) : e = 11 ∨ e = 12 := by
  unfold atomR atomG at h
  split at h
  · rename_i e' h'
    simp only [Res.err.injEq] at h
    subst h
    exact numR_err l true 0 _ h'
  · split at h
    · simp only [Res.err.injEq] at h; exact .inl h.symm
    · cases h
/-- What a reader may yield: it goes on, counts what it reads, and its errors are two. -/
def Sound (f : Nat → List UInt8 → Res (Sx × Nat × List UInt8) Int) : Prop :=
  ∀ (k : Nat) (l : List UInt8), k ≤ 20000 → (∀ x k' r, f k l = .ok (x, k', r) → (∃ p, p ≠ [] ∧ l = p ++ r ∧ bkS x ≤ 4 * p.length) ∧ k < k' ∧ k' ≤ 20000) ∧ ∀ e, f k l = .err e → e = 11 ∨ e = 12
theorem bkSs_append : ∀ (l m : List Sx), bkSs (l ++ m) = bkSs l + bkSs m
  | [], m => by simp [bkSs]
  | x :: l, m => by simp only [List.cons_append, bkSs, bkSs_append l m]; omega
theorem rdL_sound {f : Nat → List UInt8 → Res (Sx × Nat × List UInt8) Int} (hf : Sound f) : ∀ (m k : Nat) (l : List UInt8) (acc : List Sx), k ≤ 20000 → l.length < m →
    (∀ xs k' r, rdL f m k l acc = .ok (xs, k', r) → (∃ p ys, p ≠ [] ∧ l = p ++ r ∧ xs = acc ++ ys ∧ bkSs ys ≤ 4 * (p.length - 1)) ∧ k ≤ k' ∧ k' ≤ 20000) ∧ ∀ e, rdL f m k l acc = .err e → e = 11 ∨ e = 12
  | 0, _, _, _, _, h => absurd h (Nat.not_lt_zero _)
  | m + 1, k, [], acc, hk, _ => ⟨fun _ _ _ h => (by simp [rdL] at h), fun e h => by simp only [rdL, Res.err.injEq] at h; exact .inl h.symm⟩
  | m + 1, k, c :: l, acc, hk, hm => by
    simp only [rdL]
    by_cases hc : c.toNat = 41
    · rw [if_pos hc]
      refine ⟨fun xs k' r h => ?_, fun e h => by cases h⟩
      simp only [Res.ok.injEq, Prod.mk.injEq] at h
      obtain ⟨rfl, rfl, rfl⟩ := h
      exact ⟨⟨[c], [], by simp, rfl, by simp, by simp [bkSs]⟩, Nat.le_refl _, hk⟩
    · rw [if_neg hc]
      obtain ⟨h1, h2⟩ := hf k (c :: l) hk
      cases hx : f k (c :: l) with
      | err e => exact ⟨fun _ _ _ h => (by cases h), fun e' h => by simp only [Res.err.injEq] at h; subst h; exact h2 e hx⟩
      | ok a =>
        obtain ⟨x, k', r'⟩ := a
        obtain ⟨⟨p, hp, hl, hb⟩, q1, q2⟩ := h1 x k' r' hx
        have hlen : r'.length < m := by
          have := congrArg List.length hl
          have : 0 < p.length := List.length_pos_iff.2 hp
          simp only [List.length_append, List.length_cons] at *; omega
        obtain ⟨g1, g2⟩ := rdL_sound hf m k' r' (acc ++ [x]) q2 hlen
        refine ⟨fun xs k2 r h => ?_, fun e h => g2 e h⟩
        obtain ⟨⟨p2, ys, hp2, hl2, hxs, hbs⟩, q3, q4⟩ := g1 xs k2 r h
        have hpl : 0 < p2.length := List.length_pos_iff.2 hp2
        have hpl1 : 0 < p.length := List.length_pos_iff.2 hp
        refine ⟨⟨p ++ p2, x :: ys, by simp [hp], by rw [hl, hl2, List.append_assoc], by rw [hxs]; simp, ?_⟩, by omega, q4⟩
        simp only [bkSs, List.length_append]; omega
theorem rdS_sound : ∀ (d : Nat), Sound (rdS d)
  | 0 => fun k l hk => by
    cases l with
    | nil => exact ⟨fun _ _ _ h => (by simp [rdS] at h), fun e h => by simp only [rdS, Res.err.injEq] at h; exact .inl h.symm⟩
    | cons c l => exact ⟨fun _ _ _ h => (by simp [rdS] at h), fun e h => by simp only [rdS, Res.err.injEq] at h; exact .inr h.symm⟩
  | d + 1 => fun k l hk => by
    cases l with
    | nil => exact ⟨fun _ _ _ h => (by simp [rdS] at h), fun e h => by simp only [rdS, Res.err.injEq] at h; exact .inl h.symm⟩
    | cons c l =>
      simp only [rdS]
      by_cases h1 : 20000 < k + 1
      · rw [if_pos h1]
        exact ⟨fun _ _ _ h => (by cases h), fun e h => by simp only [Res.err.injEq] at h; exact .inr h.symm⟩
      rw [if_neg h1]
      by_cases h2 : c.toNat ≠ 40
      · rw [if_pos h2]
        cases ha : atomR (c :: l) with
        | err e => exact ⟨fun _ _ _ h => (by cases h), fun e' h => by simp only [Res.err.injEq] at h; subst h; exact atomR_err ha⟩
        | ok a =>
          obtain ⟨a, r⟩ := a
          refine ⟨fun x k' r' h => ?_, fun e h => by cases h⟩
          simp only [Res.ok.injEq, Prod.mk.injEq] at h
          obtain ⟨rfl, rfl, rfl⟩ := h
          obtain ⟨p, hp, hl⟩ := atomR_ok ha
          have : 0 < p.length := List.length_pos_iff.2 hp
          refine ⟨⟨p ++ a, by simp [hp], hl, ?_⟩, by omega, by omega⟩
          have hsz : (⟨a.toArray⟩ : ByteArray).size = a.length := by rw [← bl_len, bl_mk]
          simp only [bkS, bkSs, hsz, List.length_append]; omega
      · rw [if_neg h2]
        obtain ⟨g1, g2⟩ := rdL_sound (rdS_sound d) (l.length + 1) (k + 1) l [] (by omega) (Nat.lt_succ_self _)
        cases hx : rdL (rdS d) (l.length + 1) (k + 1) l [] with
        | err e => exact ⟨fun _ _ _ h => (by cases h), fun e' h => by simp only [Res.err.injEq] at h; subst h; exact g2 e hx⟩
        | ok a =>
          obtain ⟨xs, k', r⟩ := a
          refine ⟨fun x k2 r2 h => ?_, fun e h => by cases h⟩
          simp only [Res.ok.injEq, Prod.mk.injEq] at h
          obtain ⟨rfl, rfl, rfl⟩ := h
          obtain ⟨⟨p, ys, hp, hl, hxs, hb⟩, q1, q2⟩ := g1 xs k' r hx
          rw [List.nil_append] at hxs
          subst hxs
          have : 0 < p.length := List.length_pos_iff.2 hp
          have hsz : (⟨#[]⟩ : ByteArray).size = 0 := rfl
          refine ⟨⟨c :: p, by simp, by rw [hl]; rfl, ?_⟩, by omega, q2⟩
          simp only [bkS, hsz, List.length_cons]; omega
/-- In a string: where the rest begins. -/
theorem drop_rest {s : ByteArray} {q : Nat} {p r : List UInt8} (h : (bl s).drop q = p ++ r) (hq : q ≤ s.size) : (s.size : Int) - (r.length : Int) = ((q + p.length : Nat) : Int) ∧ (bl s).drop (q + p.length) = r ∧ q + p.length ≤ s.size := by
  have hl := bl_len s
  have h1 := congrArg List.length h
  simp only [List.length_drop, List.length_append] at h1
  refine ⟨by omega, ?_, by omega⟩
  rw [← List.drop_drop, h, List.drop_left' rfl]
end Go.Proofs.YtofjpelbjehddaaDoor

/-
  Csexp: the two readers.
-/
namespace Go.Proofs.YtofjpelbjehddaaDoor
set_option linter.unusedVariables false
set_option linter.unusedSimpArgs false
set_option linter.unusedSectionVars false
open Go.RowKit

theorem wkK_of {K : Kn} {r : T} {s : St} (h : K r s) : wkK K r s := ⟨r, Weak.refl r, h⟩
theorem weak_nil {b : Bool} {a : ByteArray} : Weak (.ag [.bool b, .str a, .nil]) (.ag [.bool b, .str a, .sl false .sexp []]) :=
  Weak.ag (WeakL.cons (Weak.refl _) (WeakL.cons (Weak.refl _) (WeakL.cons (Weak.nil .sexp) WeakL.nil)))
theorem wkK_nil2 {K : Kn} {b : Bool} {a : ByteArray} {v : T} {s : St} (h : K (.tu [.ag [.bool b, .str a, .sl false .sexp []], v]) s) : wkK K (.tu [.ag [.bool b, .str a, .nil], v]) s :=
  ⟨_, Weak.tu (WeakL.cons weak_nil (WeakL.cons (Weak.refl _) WeakL.nil)), h⟩
theorem wkK_nil1 {K : Kn} {b : Bool} {a : ByteArray} {s : St} (h : K (.ag [.bool b, .str a, .sl false .sexp []]) s) : wkK K (.ag [.bool b, .str a, .nil]) s := ⟨_, weak_nil, h⟩
theorem res_err {α : Type} {K : α → Prop} {X : Int → Prop} {e : Int} (h : Res.go (.err e : Res α Int) K X) : X e := h

/-! ### The reference's reader -/
theorem F68_is {Z : prodL L68 → Prop} {s : ByteArray} {p k d : Nat} {K X : Kn} (hp : p ≤ s.size) (hs : s.size ≤ 2147483648) (hk : k ≤ 20000) (hd : d ≤ 12)
    (hZ : ∀ q k' : Nat, q ≤ s.size → k' ≤ 20000 → 1 ≤ d → Z (s, (q : Int), 20000 - (k' : Int), 0, (d : Int) - 1, ())) (h : readF (s, (p : Int), 20000 - (k : Int), 0, (d : Int), ()) K X) : F68 Z (s, (p : Int), 20000 - (k : Int), 0, (d : Int), ()) (wkK K) := by
  unfold readF at h
  dsimp only [Lf.ty, prodL] at h
  rw [Int.toNat_natCast, Int.toNat_natCast, show (20000 - (20000 - (k : Int))).toNat = k by omega] at h
  have hl := bl_len s
  have hnil : ∀ v, (∀ y : Sx, K (.tu [.ag [.bool y.isList, .str y.atom, .sl false .sexp y.list], v]) []) → wkK K (.tu [.ag [.bool false, .str (⟨#[]⟩ : ByteArray), .nil], v]) [] := fun v hv => wkK_nil2 (hv ⟨false, ⟨#[]⟩, []⟩)
  unfold F68
  dsimp only [Lf.ty, prodL]
  rw [bif_dec]
  cases hdr : (bl s).drop p with
  | nil =>
    have := List.drop_eq_nil_iff.1 hdr
    rw [hdr, show rdS d k [] = .err 11 by cases d <;> rfl] at h
    rw [if_pos (by omega)]
    exact hnil _ fun y => h y _ _
  | cons c r =>
    obtain ⟨d1, d2, d3⟩ := drop_next hdr
    rw [hdr] at h
    rw [if_neg (by omega), bif_dec]
    cases d with
    | zero =>
      rw [if_pos (show ((0 : Nat) : Int) = 0 from rfl)]
      unfold F68_J2
      exact hnil _ fun y => h y _ _
    | succ d =>
      rw [if_neg (by omega)]
      simp only [rdS] at h
      unfold F68_J2
      by_cases hk1 : 20000 < k + 1
      · rw [if_pos hk1] at h
        rw [decide_eq_true (by omega), cond_true]
        exact hnil _ fun y => h y _ _
      rw [if_neg hk1] at h
      rw [decide_eq_false (by omega), cond_false]
      refine StrAt_of hdr ?_
      have w1 : IntKind.i64.wrap (20000 - (k : Int) - 1) = 20000 - ((k + 1 : Nat) : Int) := by rw [wrap64 (by omega) (by omega)]; omega
      have w2 : IntKind.i64.wrap ((p : Int) + 1) = ((p + 1 : Nat) : Int) := by rw [wrap64 (by omega) (by omega)]; omega
      have w3 : IntKind.i64.wrap (((d + 1 : Nat) : Int) - 1) = (d : Int) := by rw [wrap64 (by omega) (by omega)]; omega
      rw [bif_not, bif_dec, w1, w2]
      by_cases hc : c.toNat = 40
      · rw [if_pos (by omega)]
        rw [if_neg (by simpa using hc)] at h
        unfold F68_L26
        let Kok (a : List Sx × Nat × List UInt8) : Prop := K (.tu [.ag [.bool true, .str (⟨#[]⟩ : ByteArray), .sl false .sexp a.1], .ag [.str s, .int .i64 ((s.size : Int) - (a.2.2.length : Int)), .int .i64 (20000 - (a.2.1 : Int)), .int .i64 0]]) []
        let Kerr (e : Int) : Prop := ∀ (y : Sx) (p m : Int), K (.tu [.ag [.bool y.isList, .str y.atom, .sl false .sexp y.list], .ag [.str s, .int .i64 p, .int .i64 m, .int .i64 e]]) []
        have h0 : Res.go (rdL (rdS d) (r.length + 1) (k + 1) r []) Kok Kerr := by
          cases hx : rdL (rdS d) (r.length + 1) (k + 1) r [] with
          | ok a => rw [hx] at h; exact h
          | err e => rw [hx] at h; exact h
        refine LoopW.of (fun g => (∃ (q k' : Nat) (acc : List Sx) (m : Nat), g = (((d + 1 : Nat) : Int), s, (q : Int), 20000 - (k' : Int), 0, false, (⟨#[]⟩ : ByteArray), (⟨#[]⟩ : ByteArray), 0, 0, 0, true, (⟨#[]⟩ : ByteArray), acc, ()) ∧ q ≤ s.size ∧ k' ≤ 20000 ∧ acc.length ≤ q ∧ ((bl s).drop q).length < m ∧ Res.go (rdL (rdS d) m k' ((bl s).drop q) acc) Kok Kerr) ∨
            (∃ (q left e : Int) (acc : List Sx), g = (((d + 1 : Nat) : Int), s, q, left, e, false, (⟨#[]⟩ : ByteArray), (⟨#[]⟩ : ByteArray), 0, 0, 0, true, (⟨#[]⟩ : ByteArray), acc, ()) ∧ e ≠ 0 ∧ Kerr e))
          (fun g => if g.2.2.2.2.1 = 0 then 1 + (s.size - g.2.2.1.toNat) else 0) ?_ (.inl ⟨p + 1, k + 1, [], r.length + 1, rfl, by omega, by omega, by simp, by rw [d1]; omega, by rw [d1]; exact h0⟩)
        rintro g (⟨q, k', acc, m, rfl, i1, i2, i3, i4, i5⟩ | ⟨q, left, e, acc, rfl, i1, i2⟩) W hW
        · unfold F68_B26
          dsimp only
          rw [decide_eq_true rfl, cond_true, bif_dec]
          have hJ40 : (∀ c l, (bl s).drop q = c :: l → c.toNat ≠ 41) → F68_J40 (wkK K) W Z ((d + 1 : Nat) : Int) s (q : Int) (20000 - (k' : Int)) 0 false (⟨#[]⟩ : ByteArray) (⟨#[]⟩ : ByteArray) 0 0 0 true (⟨#[]⟩ : ByteArray) acc := fun hne => by
            unfold F68_J40
            rw [w3]
            have hz := hZ q k' i1 i2 (by omega)
            rw [show ((d + 1 : Nat) : Int) - 1 = (d : Int) by omega] at hz
            refine ⟨hz, ?_⟩
            rw [Int.toNat_natCast, Int.toNat_natCast, show (20000 - (20000 - (k' : Int))).toNat = k' by omega]
            have herr : ∀ (y : Sx) (p m e : Int), e ≠ 0 → (∀ e', e' = (if (q : Int) = (s.size : Int) then 11 else e) → Kerr e') → F68_J39 (wkK K) W ((d + 1 : Nat) : Int) s (q : Int) (20000 - (k' : Int)) 0 false (⟨#[]⟩ : ByteArray) (⟨#[]⟩ : ByteArray) 0 0 0 true (⟨#[]⟩ : ByteArray) y.isList y.atom y.list s p m e acc := fun y p m e he hK => by
              unfold F68_J39
              rw [decide_eq_false he, cond_false]
              unfold F68_J38
              rw [bif_dec]
              have hK := hK _ rfl
              split <;> rename_i hq
              · rw [if_pos hq] at hK
                unfold F68_J37
                refine hW _ (.inr ⟨_, _, _, _, rfl, by omega, hK⟩) ?_
                dsimp only
                rw [if_neg (by omega), if_pos rfl]; omega
              · rw [if_neg hq] at hK
                unfold F68_J37
                refine hW _ (.inr ⟨_, _, _, _, rfl, he, hK⟩) ?_
                dsimp only
                rw [if_neg he, if_pos rfl]; omega
            obtain ⟨m', rfl⟩ : ∃ m', m = m' + 1 := ⟨m - 1, by omega⟩
            cases hdq : (bl s).drop q with
            | nil =>
              have := List.drop_eq_nil_iff.1 hdq
              rw [hdq] at i5
              rw [show rdS d k' [] = .err 11 by cases d <;> rfl]
              exact fun y p m => herr y p m 11 (by omega) fun e' he' => by
                have : e' = 11 := by rw [he']; split <;> rfl
                subst this
                exact i5
            | cons c2 r2 =>
              obtain ⟨e1, e2, e3⟩ := drop_next hdq
              rw [hdq] at i5 i4
              have hne := hne c2 r2 hdq
              simp only [rdL, if_neg hne] at i5
              obtain ⟨s1, s2⟩ := rdS_sound d k' (c2 :: r2) i2
              cases hx : rdS d k' (c2 :: r2) with
              | err e =>
                rw [hx] at i5
                have he : e ≠ 0 := by rcases s2 e hx with h | h <;> omega
                exact fun y p m => herr y p m e he fun e' he' => by
                  rw [if_neg (by omega)] at he'
                  subst he'
                  exact i5
              | ok a =>
                obtain ⟨x, k2, l2⟩ := a
                rw [hx] at i5
                obtain ⟨⟨pp, p1, p2, p3⟩, q1, q2⟩ := s1 x k2 l2 hx
                have hppl : 0 < pp.length := List.length_pos_iff.2 p1
                obtain ⟨z1, z2, z3⟩ := drop_rest (hdq.trans p2) i1
                show F68_J39 _ _ _ _ _ _ _ _ _ _ _ _ _ _ _ _ _ _ _ _ _ _ _
                unfold F68_J39
                rw [decide_eq_true rfl, cond_true]
                refine ⟨by simp only [List.length_cons, List.length_nil]; omega, ?_⟩
                unfold F68_J38
                rw [bif_dec, if_neg (by omega)]
                unfold F68_J37
                rw [Sx.eta]
                simp only
                rw [z1]
                refine hW _ (.inl ⟨q + pp.length, k2, acc ++ [x], m', rfl, z3, q2, by simp; omega, ?_, by rw [z2]; exact i5⟩) ?_
                · rw [z2]
                  have := congrArg List.length p2
                  simp only [List.length_append, List.length_cons] at this i4; omega
                · dsimp only
                  rw [if_pos rfl, if_pos rfl, Int.toNat_natCast, Int.toNat_natCast]; omega
          by_cases hq : q = s.size
          · rw [if_pos (by omega)]
            exact hJ40 fun c l hc => by have := (drop_next hc).2.1; omega
          · rw [if_neg (by omega)]
            cases hdq : (bl s).drop q with
            | nil => have := List.drop_eq_nil_iff.1 hdq; omega
            | cons c2 r2 =>
              obtain ⟨e1, e2, e3⟩ := drop_next hdq
              refine StrAt_of hdq ?_
              rw [bif_not, bif_dec]
              by_cases h41 : c2.toNat = 41
              · rw [if_pos (by omega)]
                obtain ⟨m', rfl⟩ : ∃ m', m = m' + 1 := ⟨m - 1, by omega⟩
                rw [hdq] at i5
                simp only [rdL, if_pos h41] at i5
                unfold F68_J42
                rw [wrap64 (n := (q : Int) + 1) (by omega) (by omega), show (q : Int) + 1 = (s.size : Int) - (r2.length : Int) by omega]
                exact wkK_of i5
              · rw [if_neg (by omega)]
                exact hJ40 fun c l hc => by rw [hdq] at hc; injection hc with hc _; subst hc; exact h41
        · unfold F68_B26
          dsimp only
          rw [decide_eq_false i1, cond_false]
          unfold F68_J42
          exact wkK_of (i2 ⟨true, ⟨#[]⟩, acc⟩ _ _)
      · rw [if_neg (by omega)]
        rw [if_pos hc] at h
        refine ⟨⟨⟨by dsimp only; omega, by dsimp only; omega, by rw [lim_eq]; exact hs⟩, rfl⟩, ?_⟩
        rw [Int.toNat_natCast, hdr]
        cases ha : atomR (c :: r) with
        | err e =>
          rw [ha] at h
          intro p6
          unfold F68_J8
          exact wkK_nil2 (h ⟨false, ⟨#[]⟩, []⟩ _ _)
        | ok a =>
          rw [ha] at h
          simp only [Res.go]
          unfold F68_J8
          exact wkK_nil2 h
def rw68 : Raw := rwz68 readPre
theorem rw68_all : ∀ n : Nat, (rwz68 fun g => readPre g ∧ g.2.2.2.2.1 < (n : Int)).Ok Tryd.prog 68
  | 0 => by
    have key : ∀ (s : ByteArray) (p left e d : Int), readPre (s, p, left, e, d, ()) → d < 0 → False := fun s p left e d h h2 => by
      obtain ⟨_, _, _, h3, _⟩ : (0 ≤ p ∧ p ≤ (s.size : Int) ∧ s.size ≤ 2 * lim) ∧ (0 ≤ left ∧ left ≤ 20000) ∧ e = 0 ∧ (0 ≤ d ∧ d ≤ 12) := h
      omega
    rintro ⟨s, p, left, e, d, ⟨⟩⟩ K X ⟨⟨h, h2⟩, _⟩
    exact (key s p left e d h h2).elim
  | n + 1 => by
    have key : ∀ (s : ByteArray) (p left e d : Int) (K X : Kn), readPre (s, p, left, e, d, ()) → d < ((n + 1 : Nat) : Int) → readF (s, p, left, e, d, ()) K X → FCalls Tryd.prog 68 (argsT S68 L68 (s, p, left, e, d, ())) (storeT S68 O68 L68 (s, p, left, e, d, ())) K X := fun s p left e d K X h m hF => by
      obtain ⟨⟨a1, a2, a3⟩, ⟨b1, b2⟩, c, e1, e2⟩ : (0 ≤ p ∧ p ≤ (s.size : Int) ∧ s.size ≤ 2 * lim) ∧ (0 ≤ left ∧ left ≤ 20000) ∧ e = 0 ∧ (0 ≤ d ∧ d ≤ 12) := h
      obtain ⟨p, rfl⟩ := Int.eq_ofNat_of_zero_le a1
      obtain ⟨d, rfl⟩ := Int.eq_ofNat_of_zero_le e1
      subst c
      obtain ⟨k, rfl⟩ : ∃ k : Nat, left = 20000 - (k : Int) := ⟨(20000 - left).toNat, by omega⟩
      rw [lim_eq] at a3
      have hz : ∀ q k' : Nat, q ≤ s.size → k' ≤ 20000 → 1 ≤ d → ((0 ≤ (q : Int) ∧ (q : Int) ≤ (s.size : Int) ∧ s.size ≤ 2 * lim) ∧ (0 ≤ 20000 - (k' : Int) ∧ 20000 - (k' : Int) ≤ 20000) ∧ (0 : Int) = 0 ∧ (0 ≤ (d : Int) - 1 ∧ (d : Int) - 1 ≤ 12)) ∧ (d : Int) - 1 < (n : Int) := fun q k' q1 q2 q3 => by rw [lim_eq]; omega
      exact FCalls.weak (F68_ok _ (rw68_all n) _ _ X (F68_is (X := X) (by omega) a3 (by omega) (by omega) hz hF))
    rintro ⟨s, p, left, e, d, ⟨⟩⟩ K X ⟨⟨h, m⟩, hF⟩
    exact key s p left e d K X h m hF
theorem rw68_ok : rw68.Ok Tryd.prog 68 := fun g K X h => rw68_all (g.2.2.2.2.1.toNat + 1) g K X ⟨⟨h.1, by
  have key : ∀ (s : ByteArray) (p left e d : Int), readPre (s, p, left, e, d, ()) → d < ((d.toNat + 1 : Nat) : Int) := fun s p left e d h => by
    obtain ⟨_, _, _, h3, _⟩ : (0 ≤ p ∧ p ≤ (s.size : Int) ∧ s.size ≤ 2 * lim) ∧ (0 ≤ left ∧ left ≤ 20000) ∧ e = 0 ∧ (0 ≤ d ∧ d ≤ 12) := h
    omega
  obtain ⟨s, p, left, e, d, ⟨⟩⟩ := g
  exact key s p left e d h.1⟩, h.2⟩

/-! ### The program's reader -/
theorem F64_is {Z : prodL L64 → Prop} {s : ByteArray} {p k d : Nat} {K X : Kn} (hp : p ≤ s.size) (hs : s.size ≤ 2147483648) (hk : k ≤ 20000) (hd : d ≤ 12)
    (hZ : ∀ q k' : Nat, q ≤ s.size → k' ≤ 20000 → 1 ≤ d → Z (13 - ((d - 1 : Nat) : Int), s, (q : Int), (k' : Int), ())) (h : sexpF (13 - (d : Int), s, (p : Int), (k : Int), ()) K X) : F64 Z (13 - (d : Int), s, (p : Int), (k : Int), ()) (wkK K) X := by
  unfold sexpF at h
  dsimp only [Lf.ty, prodL] at h
  rw [Int.toNat_natCast, Int.toNat_natCast, show (13 - (13 - (d : Int))).toNat = d by omega] at h
  have hl := bl_len s
  have hpre : ∀ q : Nat, q ≤ s.size → ∀ n : Int, nextPre (s, (q : Int), n, ()) := fun q hq n => ⟨by dsimp only; omega, by dsimp only; omega, by rw [lim_eq]; exact hs⟩
  unfold F64
  dsimp only [Lf.ty, prodL]
  refine ⟨hpre p hp _, ?_⟩
  rw [Int.toNat_natCast]
  cases hdr : (bl s).drop p with
  | nil =>
    rw [hdr, show rdS d k [] = .err 11 by cases d <;> rfl] at h
    exact h _ _
  | cons c r =>
    obtain ⟨d1, d2, d3⟩ := drop_next hdr
    rw [hdr] at h
    show bif decide (20000 < IntKind.i64.wrap ((k : Int) + 1)) then _ else _
    have w1 : IntKind.i64.wrap ((k : Int) + 1) = ((k + 1 : Nat) : Int) := by rw [wrap64 (by omega) (by omega)]; omega
    have w2 : IntKind.i64.wrap ((p : Int) + 1) = ((p + 1 : Nat) : Int) := by rw [wrap64 (by omega) (by omega)]; omega
    rw [w1, bif_dec]
    cases d with
    | zero =>
      have hX : ∀ a b : Int, X (.ic 100 (.ag [.int .i64 12])) [some (.cells [.str s, .int .i64 a, .int .i64 b])] := h
      split
      · unfold F64_J4; exact hX _ _
      · unfold F64_J4; rw [decide_eq_true (by omega), cond_true]; exact hX _ _
    | succ d =>
      simp only [rdS] at h
      by_cases hk1 : 20000 < k + 1
      · rw [if_pos hk1] at h
        rw [if_pos (by omega)]
        unfold F64_J4
        exact h _ _
      rw [if_neg hk1] at h
      rw [if_neg (by omega), decide_eq_false (by omega)]
      unfold F64_J4
      rw [cond_false, bif_not, bif_dec]
      by_cases hc : c.toNat = 40
      · rw [if_pos (by omega), w2]
        rw [if_neg (by simpa using hc)] at h
        unfold F64_L17
        let Kok (a : List Sx × Nat × List UInt8) : Prop := K (.ag [.bool true, .str (⟨#[]⟩ : ByteArray), .sl false .sexp a.1]) [some (.cells [.str s, .int .i64 ((s.size : Int) - (a.2.2.length : Int)), .int .i64 (a.2.1 : Int)])]
        let Kerr (e : Int) : Prop := ∀ (p m : Int), X (.ic 100 (.ag [.int .i64 e])) [some (.cells [.str s, .int .i64 p, .int .i64 m])]
        have h0 : Res.go (rdL (rdS d) (r.length + 1) (k + 1) r []) Kok Kerr := by
          cases hx : rdL (rdS d) (r.length + 1) (k + 1) r [] with
          | ok a => rw [hx] at h; exact h
          | err e => rw [hx] at h; exact h
        refine LoopW.of (fun g => ∃ (q k' : Nat) (acc : List Sx) (m : Nat), g = (13 - ((d + 1 : Nat) : Int), s, (q : Int), (k' : Int), false, (⟨#[]⟩ : ByteArray), true, (⟨#[]⟩ : ByteArray), acc, ()) ∧ q ≤ s.size ∧ k' ≤ 20000 ∧ acc.length ≤ q ∧ ((bl s).drop q).length < m ∧ Res.go (rdL (rdS d) m k' ((bl s).drop q) acc) Kok Kerr)
          (fun g => s.size - g.2.2.1.toNat) ?_ ⟨p + 1, k + 1, [], r.length + 1, rfl, by omega, by omega, by simp, by rw [d1]; omega, by rw [d1]; exact h0⟩
        rintro g ⟨q, k', acc, m, rfl, i1, i2, i3, i4, i5⟩ W hW
        unfold F64_B17
        dsimp only
        refine ⟨hpre q i1 _, ?_⟩
        rw [Int.toNat_natCast]
        obtain ⟨m', rfl⟩ : ∃ m', m = m' + 1 := ⟨m - 1, by omega⟩
        cases hdq : (bl s).drop q with
        | nil =>
          rw [hdq] at i5
          exact i5 _ _
        | cons c2 r2 =>
          obtain ⟨e1, e2, e3⟩ := drop_next hdq
          rw [hdq] at i5 i4
          show bif !decide ((c2.toNat : Int) = 41) then _ else _
          rw [bif_not, bif_dec]
          by_cases h41 : c2.toNat = 41
          · rw [if_pos (by omega)]
            simp only [rdL, if_pos h41] at i5
            rw [wrap64 (n := (q : Int) + 1) (by omega) (by omega), show (q : Int) + 1 = (s.size : Int) - (r2.length : Int) by omega]
            exact wkK_of i5
          · rw [if_neg (by omega)]
            simp only [rdL, if_neg h41] at i5
            have w3 : IntKind.i64.wrap (13 - ((d + 1 : Nat) : Int) + 1) = 13 - (d : Int) := by rw [wrap64 (by omega) (by omega)]; omega
            rw [w3]
            have hz := hZ q k' i1 i2 (by omega)
            rw [show d + 1 - 1 = d from rfl] at hz
            refine ⟨hz, ?_⟩
            rw [Int.toNat_natCast, show (13 - (13 - (d : Int))).toNat = d by omega]
            obtain ⟨s1, s2⟩ := rdS_sound d k' (c2 :: r2) i2
            cases hx : rdS d k' (c2 :: r2) with
            | err e =>
              rw [hx] at i5
              exact fun a b _ => i5 a b
            | ok a =>
              obtain ⟨x, k2, l2⟩ := a
              rw [hx] at i5
              obtain ⟨⟨pp, p1, p2, p3⟩, q1, q2⟩ := s1 x k2 l2 hx
              have hppl : 0 < pp.length := List.length_pos_iff.2 p1
              obtain ⟨z1, z2, z3⟩ := drop_rest (hdq.trans p2) i1
              show Room _ _ _
              refine ⟨by simp only [List.length_cons, List.length_nil]; omega, ?_⟩
              rw [Sx.eta]
              simp only
              rw [z1]
              refine hW _ ⟨q + pp.length, k2, acc ++ [x], m', rfl, z3, q2, by simp; omega, ?_, by rw [z2]; exact i5⟩ ?_
              · rw [z2]
                have := congrArg List.length p2
                simp only [List.length_append, List.length_cons] at this i4; omega
              · dsimp only
                rw [Int.toNat_natCast, Int.toNat_natCast]; omega
      · rw [if_neg (by omega)]
        rw [if_pos hc] at h
        refine ⟨hpre p hp _, ?_⟩
        rw [Int.toNat_natCast, hdr]
        unfold atomR atomG at h
        cases ha : numR true 0 (c :: r) with
        | err e =>
          rw [ha] at h
          exact fun a => h _ _
        | ok a =>
          obtain ⟨n, l2⟩ := a
          rw [ha] at h
          obtain ⟨⟨pp, p1, p2⟩, hn⟩ := numR_ok _ _ _ _ _ ha
          obtain ⟨z1, z2, z3⟩ := drop_rest (hdr.trans p2) hp
          have hz2 := congrArg List.length z2
          rw [List.length_drop] at hz2
          have hn := hn (by omega)
          simp only at h
          show bif decide (IntKind.i64.wrap ((s.size : Int) - ((s.size : Int) - (l2.length : Int))) < (n : Int)) then _ else _
          rw [z1, bif_dec, wrap64 (n := (s.size : Int) - ((p + pp.length : Nat) : Int)) (by omega) (by omega), wrap64 (n := ((p + pp.length : Nat) : Int) + (n : Int)) (by omega) (by omega), wrap64 (by omega) (by omega)]
          by_cases hlt : l2.length < n
          · rw [if_pos hlt] at h
            rw [if_pos (by omega)]
            exact h _ _
          · rw [if_neg hlt] at h
            rw [if_neg (by omega)]
            refine ⟨by omega, by omega, by omega, wkK_nil1 ?_⟩
            have e1 : s.extract (((p + pp.length : Nat) : Int) + (n : Int) - (n : Int)).toNat (((p + pp.length : Nat) : Int) + (n : Int)).toNat = ⟨(l2.take n).toArray⟩ := by
              apply bl_inj
              rw [show bl ⟨(l2.take n).toArray⟩ = l2.take n from bl_mk _, bl_extract, show (((p + pp.length : Nat) : Int) + (n : Int) - (n : Int)).toNat = p + pp.length by omega, show (((p + pp.length : Nat) : Int) + (n : Int)).toNat = p + pp.length + n by omega, List.drop_take, z2, show p + pp.length + n - (p + pp.length) = n by omega]
            have e2 : ((p + pp.length : Nat) : Int) + (n : Int) = (s.size : Int) - ((l2.drop n).length : Int) := by rw [List.length_drop]; omega
            rw [e1, e2]
            exact h
def rw64 : Raw := rwz64 sexpPre
theorem rw64_all : ∀ n : Nat, (rwz64 fun g => sexpPre g ∧ 13 - g.1 < (n : Int)).Ok Tryd.prog 64
  | 0 => by
    have key : ∀ (lv : Int) (s : ByteArray) (p k : Int), sexpPre (lv, s, p, k, ()) → 13 - lv < 0 → False := fun lv s p k h h2 => by
      obtain ⟨⟨_, _⟩, _⟩ : (1 ≤ lv ∧ lv ≤ 13) ∧ (0 ≤ p ∧ p ≤ (s.size : Int) ∧ s.size ≤ 2 * lim) ∧ (0 ≤ k ∧ k ≤ 20000) := h
      omega
    rintro ⟨lv, s, p, k, ⟨⟩⟩ K X ⟨⟨h, h2⟩, _⟩
    exact (key lv s p k h h2).elim
  | n + 1 => by
    have key : ∀ (lv : Int) (s : ByteArray) (p k : Int) (K X : Kn), sexpPre (lv, s, p, k, ()) → 13 - lv < ((n + 1 : Nat) : Int) → sexpF (lv, s, p, k, ()) K X → FCalls Tryd.prog 64 (argsT S64 L64 (lv, s, p, k, ())) (storeT S64 O64 L64 (lv, s, p, k, ())) K X := fun lv s p k K X h m hF => by
      obtain ⟨⟨e1, e2⟩, ⟨a1, a2, a3⟩, b1, b2⟩ : (1 ≤ lv ∧ lv ≤ 13) ∧ (0 ≤ p ∧ p ≤ (s.size : Int) ∧ s.size ≤ 2 * lim) ∧ (0 ≤ k ∧ k ≤ 20000) := h
      obtain ⟨p, rfl⟩ := Int.eq_ofNat_of_zero_le a1
      obtain ⟨k, rfl⟩ := Int.eq_ofNat_of_zero_le b1
      obtain ⟨d, rfl⟩ : ∃ d : Nat, lv = 13 - (d : Int) := ⟨(13 - lv).toNat, by omega⟩
      rw [lim_eq] at a3
      have hz : ∀ q k' : Nat, q ≤ s.size → k' ≤ 20000 → 1 ≤ d → ((1 ≤ 13 - ((d - 1 : Nat) : Int) ∧ 13 - ((d - 1 : Nat) : Int) ≤ 13) ∧ (0 ≤ (q : Int) ∧ (q : Int) ≤ (s.size : Int) ∧ s.size ≤ 2 * lim) ∧ (0 ≤ (k' : Int) ∧ (k' : Int) ≤ 20000)) ∧ 13 - (13 - ((d - 1 : Nat) : Int)) < (n : Int) := fun q k' q1 q2 q3 => by rw [lim_eq]; omega
      exact FCalls.weak (F64_ok _ (rw64_all n) _ _ X (F64_is (X := X) (by omega) a3 (by omega) (by omega) hz hF))
    rintro ⟨lv, s, p, k, ⟨⟩⟩ K X ⟨⟨h, m⟩, hF⟩
    exact key lv s p k K X h m hF
theorem rw64_ok : rw64.Ok Tryd.prog 64 := fun g K X h => rw64_all ((13 - g.1).toNat + 1) g K X ⟨⟨h.1, by
  have key : ∀ (lv : Int) (s : ByteArray) (p k : Int), sexpPre (lv, s, p, k, ()) → 13 - lv < (((13 - lv).toNat + 1 : Nat) : Int) := fun lv s p k h => by
    obtain ⟨⟨_, _⟩, _⟩ : (1 ≤ lv ∧ lv ≤ 13) ∧ (0 ≤ p ∧ p ≤ (s.size : Int) ∧ s.size ≤ 2 * lim) ∧ (0 ≤ k ∧ k ≤ 20000) := h
    omega
  obtain ⟨lv, s, p, k, ⟨⟩⟩ := g
  exact key lv s p k h.1⟩, h.2⟩
end Go.Proofs.YtofjpelbjehddaaDoor
