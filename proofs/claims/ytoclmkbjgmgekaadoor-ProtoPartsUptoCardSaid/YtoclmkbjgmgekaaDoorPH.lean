/- What functions come to: printed by exf.py. -/
import Derived.Test.YtoclmkbjgmgekaaDoorP7
namespace Go.Proofs.YtoclmkbjgmgekaaDoor
set_option linter.unusedVariables false
set_option linter.unusedSimpArgs false
set_option linter.unusedSectionVars false
open Go.RowKit
attribute [local irreducible] dfun dround
/-- quilt/proto.Batches -/
def H12 : List (Nat × Hint) := [(5, ⟨[], [(0, .leaf), (1, .leaf), (6, .leaf), (20, .leaf), (21, .leaf), (22, .leaf)], [], [.sl .str, .int .i64, .int .i64, .sl .str, .int .i64, .int .i64]⟩), (11, ⟨[((9, []), some .msg)], [(0, .leaf), (1, .leaf), (6, .leaf), (9, .oa .msg 0)], [.arr .msg], [.sl .str, .int .i64, .int .i64, .sl .msg]⟩), (13, ⟨[((9, []), none)], [(0, .leaf), (1, .leaf), (6, .leaf), (9, .oa .msg 0), (10, .leaf), (11, .leaf)], [.arr .msg], [.sl .str, .int .i64, .int .i64, .int .i64, .int .i64, .sl .msg]⟩)]
def J12 : List (Nat × Hint) := [(2, ⟨[], [(0, .leaf), (1, .leaf), (17, .leaf)], [], [.sl .str, .int .i64, .bool]⟩), (16, ⟨[((9, []), none)], [(0, .leaf), (1, .leaf), (6, .leaf), (9, .oa .msg 0), (10, .leaf)], [.arr .msg], [.sl .str, .int .i64, .int .i64, .int .i64, .sl .msg]⟩)]
abbrev S12 : List Sh := [.leaf, .leaf]
abbrev L12 : List Lf := [.sl .str, .int .i64]
def F12_J21 (K : Kn) (W15 : prodL [.sl .str, .int .i64, .int .i64, .sl .msg] → Prop) (patches_20 : List ByteArray) (most_20 : Int) (frame_20 : Int) (n_20 : Int) (out_20 : List Msg) : Prop :=
  (0 : Int) ≤ 0 ∧ 0 ≤ n_20 ∧ n_20 = n_20 ∧ n_20 ≤ (patches_20.length : Int) ∧
  Room (out_20.length + [(⟨3, (⟨#[]⟩ : ByteArray), [], [], (patches_20.take n_20.toNat).drop ((0 : Int).toNat), [], 0, (⟨#[]⟩ : ByteArray), ⟨0, [], [], []⟩⟩ : Msg)].length) 224 (
  (0 : Int) ≤ n_20 ∧ n_20 ≤ (patches_20.length : Int) ∧
  W15 (patches_20.drop n_20.toNat, most_20, frame_20, out_20 ++ [(⟨3, (⟨#[]⟩ : ByteArray), [], [], (patches_20.take n_20.toNat).drop ((0 : Int).toNat), [], 0, (⟨#[]⟩ : ByteArray), ⟨0, [], [], []⟩⟩ : Msg)], ()))
def F12_B17 (K : Kn) (W15 : prodL [.sl .str, .int .i64, .int .i64, .sl .msg] → Prop) (W17 : prodL [.sl .str, .int .i64, .int .i64, .int .i64, .int .i64, .sl .msg] → Prop) (patches_16 : List ByteArray) (most_16 : Int) (frame_16 : Int) (n_16 : Int) (bytes_16 : Int) (out_16 : List Msg) : Prop :=
  bif decide (n_16 < (patches_16.length : Int)) then (
    bif decide (n_16 < 19998) then (
      At patches_16 n_16 fun u18 =>
      sp22.pre (u18, ()) ∧
      bif decide (IntKind.i64.wrap (bytes_16 + (szA u18)) ≤ most_16) then (
    At patches_16 n_16 fun u19 =>
  sp22.pre (u19, ()) ∧
  W17 (patches_16, most_16, frame_16, IntKind.i64.wrap (n_16 + 1), IntKind.i64.wrap (bytes_16 + (szA u19)), out_16, ()))
  else (
    F12_J21 K W15 patches_16 most_16 frame_16 n_16 out_16))
    else (
      F12_J21 K W15 patches_16 most_16 frame_16 n_16 out_16))
  else (
    F12_J21 K W15 patches_16 most_16 frame_16 n_16 out_16)
def F12_L17 (K : Kn) (W15 : prodL [.sl .str, .int .i64, .int .i64, .sl .msg] → Prop) (g : prodL [.sl .str, .int .i64, .int .i64, .int .i64, .int .i64, .sl .msg]) : Prop :=
  LoopW (γ := prodL [.sl .str, .int .i64, .int .i64, .int .i64, .int .i64, .sl .msg]) (fun V y => F12_B17 K W15 V y.1 y.2.1 y.2.2.1 y.2.2.2.1 y.2.2.2.2.1 y.2.2.2.2.2.1) g
def F12_B15 (K : Kn) (W15 : prodL [.sl .str, .int .i64, .int .i64, .sl .msg] → Prop) (patches_14 : List ByteArray) (most_14 : Int) (frame_14 : Int) (out_14 : List Msg) : Prop :=
  bif decide (0 < (patches_14.length : Int)) then (
    F12_L17 K W15 (patches_14, most_14, frame_14, 0, frame_14, out_14, ()))
  else (
    K (.tu [.sl false .msg out_14, .int .i64 0]) [])
def F12_L15 (K : Kn) (g : prodL [.sl .str, .int .i64, .int .i64, .sl .msg]) : Prop :=
  LoopW (γ := prodL [.sl .str, .int .i64, .int .i64, .sl .msg]) (fun V y => F12_B15 K V y.1 y.2.1 y.2.2.1 y.2.2.2.1) g
def F12_B4 (K : Kn) (W4 : prodL [.sl .str, .int .i64, .int .i64, .sl .str, .int .i64, .int .i64] → Prop) (patches_3 : List ByteArray) (most_3 : Int) (frame_3 : Int) (t_3 : List ByteArray) (t2_3 : Int) (t3_3 : Int) : Prop :=
  bif decide (t3_3 < t2_3) then (
    At t_3 t3_3 fun u5 =>
  sp22.pre (u5, ()) ∧
  bif decide (most_3 < IntKind.i64.wrap (frame_3 + (szA u5))) then (
    K (.tu [.nil, .int .i64 4]) [])
  else (
    W4 (patches_3, most_3, frame_3, t_3, t2_3, IntKind.i64.wrap (t3_3 + 1), ())))
  else (
    F12_L15 K (patches_3, most_3, frame_3, [], ()))
def F12_L4 (K : Kn) (g : prodL [.sl .str, .int .i64, .int .i64, .sl .str, .int .i64, .int .i64]) : Prop :=
  LoopW (γ := prodL [.sl .str, .int .i64, .int .i64, .sl .str, .int .i64, .int .i64]) (fun V y => F12_B4 K V y.1 y.2.1 y.2.2.1 y.2.2.2.1 y.2.2.2.2.1 y.2.2.2.2.2.1) g
def F12_J2 (K : Kn) (patches_1 : List ByteArray) (most_1 : Int) (t_1 : Bool) : Prop :=
  bif t_1 then (
    K (.tu [.nil, .int .i64 2]) [])
  else (
    sp22.pre ((⟨#[112, 97, 116, 99, 104, 101, 115]⟩ : ByteArray), ()) ∧
  F12_L4 K (patches_1, most_1, IntKind.i64.wrap (2 + (szA (⟨#[112, 97, 116, 99, 104, 101, 115]⟩ : ByteArray))), patches_1, (patches_1.length : Int), 0, ()))
def F12 (g : prodL L12) (K : Kn) : Prop :=
  bif decide (g.2.1 < 1) then (
    F12_J2 K g.1 g.2.1 true)
  else (
    F12_J2 K g.1 g.2.1 (decide (65536 < g.2.1)))
theorem F12_eq (g : prodL L12) (K X : Kn) : F12 g K = dfun D (gamX [] [(22, true, sp22)]) (isRaw []) H12 J12 77 [.tmp 4, .tmp 5] (codeOf Tryd.f12) (argsT S12 L12 g) [] (settle0 K) X := by kernel_rfl
theorem F12_ok (g : prodL L12) (K X : Kn) (h : F12 g K) : FCalls Tryd.prog 12 (argsT S12 L12 g) [] K X :=
  FCalls.settle0 (dfun_sound (Γ := gamX [] [(22, true, sp22)]) (mu := isRaw []) (H := H12) (J := J12) D_ok (gamX_ok (rs := []) (l := [(22, true, sp22)]) (fun p hp => by cases hp) (by intro p hp; simp only [List.mem_cons, List.not_mem_nil, or_false] at hp; subst hp; exact sp22_ok)) gamX_det rfl Tryd.func12 (c := codeOf Tryd.f12) rfl Tryd.ntmps12 (rs := [.tmp 4, .tmp 5]) Tryd.results12 (by unfold enters; rw [Tryd.func12]; kernel_rfl) (Nat.le_of_ble_eq_true (by kernel_rfl)) (X := X) (c0 := 0) (Eq.mp (F12_eq g K X) h))
/-- quilt/quiltref50.Batches -/
def H13 : List (Nat × Hint) := [(4, ⟨[((6, []), some .msg)], [(0, .leaf), (1, .leaf), (6, .oa .msg 0)], [.arr .msg], [.sl .str, .int .i64, .sl .msg]⟩), (6, ⟨[((6, []), none)], [(0, .leaf), (1, .leaf), (6, .oa .msg 0), (7, .leaf)], [.arr .msg], [.sl .str, .int .i64, .int .i64, .sl .msg]⟩)]
def J13 : List (Nat × Hint) := [(2, ⟨[], [(0, .leaf), (1, .leaf), (13, .leaf)], [], [.sl .str, .int .i64, .bool]⟩), (8, ⟨[((6, []), none)], [(0, .leaf), (1, .leaf), (6, .oa .msg 0), (7, .leaf)], [.arr .msg], [.sl .str, .int .i64, .int .i64, .sl .msg]⟩)]
abbrev S13 : List Sh := [.leaf, .leaf]
abbrev L13 : List Lf := [.sl .str, .int .i64]
def F13_J14 (K : Kn) (W10 : prodL [.sl .str, .int .i64, .sl .msg] → Prop) (patches_13 : List ByteArray) (most_13 : Int) (n_13 : Int) (out_13 : List Msg) : Prop :=
  bif decide (n_13 = 0) then (
    K (.tu [.nil, .int .i64 4]) [])
  else (
    (0 : Int) ≤ 0 ∧ 0 ≤ n_13 ∧ n_13 ≤ (patches_13.length : Int) ∧
  Room (out_13.length + [(⟨3, (⟨#[]⟩ : ByteArray), [], [], (patches_13.take n_13.toNat).drop ((0 : Int).toNat), [], 0, (⟨#[]⟩ : ByteArray), ⟨0, [], [], []⟩⟩ : Msg)].length) 224 (
  (0 : Int) ≤ n_13 ∧ n_13 ≤ (patches_13.length : Int) ∧
  W10 (patches_13.drop n_13.toNat, most_13, out_13 ++ [(⟨3, (⟨#[]⟩ : ByteArray), [], [], (patches_13.take n_13.toNat).drop ((0 : Int).toNat), [], 0, (⟨#[]⟩ : ByteArray), ⟨0, [], [], []⟩⟩ : Msg)], ())))
def F13_B12 (K : Kn) (W10 : prodL [.sl .str, .int .i64, .sl .msg] → Prop) (W12 : prodL [.sl .str, .int .i64, .int .i64, .sl .msg] → Prop) (patches_11 : List ByteArray) (most_11 : Int) (n_11 : Int) (out_11 : List Msg) : Prop :=
  bif decide (n_11 < (patches_11.length : Int)) then (
    (0 : Int) ≤ 0 ∧ 0 ≤ IntKind.i64.wrap (n_11 + 1) ∧ IntKind.i64.wrap (n_11 + 1) ≤ (patches_11.length : Int) ∧
    sp23.pre ((patches_11.take ((IntKind.i64.wrap (n_11 + 1)).toNat)).drop ((0 : Int).toNat), most_11, ()) ∧
    bif fitsL ((patches_11.take ((IntKind.i64.wrap (n_11 + 1)).toNat)).drop ((0 : Int).toNat)) most_11 then (
    W12 (patches_11, most_11, IntKind.i64.wrap (n_11 + 1), out_11, ()))
  else (
    F13_J14 K W10 patches_11 most_11 n_11 out_11))
  else (
    F13_J14 K W10 patches_11 most_11 n_11 out_11)
def F13_L12 (K : Kn) (W10 : prodL [.sl .str, .int .i64, .sl .msg] → Prop) (g : prodL [.sl .str, .int .i64, .int .i64, .sl .msg]) : Prop :=
  LoopW (γ := prodL [.sl .str, .int .i64, .int .i64, .sl .msg]) (fun V y => F13_B12 K W10 V y.1 y.2.1 y.2.2.1 y.2.2.2.1) g
def F13_B10 (K : Kn) (W10 : prodL [.sl .str, .int .i64, .sl .msg] → Prop) (patches_9 : List ByteArray) (most_9 : Int) (out_9 : List Msg) : Prop :=
  bif decide (0 < (patches_9.length : Int)) then (
    F13_L12 K W10 (patches_9, most_9, 0, out_9, ()))
  else (
    K (.tu [.sl false .msg out_9, .int .i64 0]) [])
def F13_L10 (K : Kn) (g : prodL [.sl .str, .int .i64, .sl .msg]) : Prop :=
  LoopW (γ := prodL [.sl .str, .int .i64, .sl .msg]) (fun V y => F13_B10 K V y.1 y.2.1 y.2.2.1) g
def F13_J2 (K : Kn) (patches_1 : List ByteArray) (most_1 : Int) (t_1 : Bool) : Prop :=
  bif t_1 then (
    K (.tu [.nil, .int .i64 2]) [])
  else (
    F13_L10 K (patches_1, most_1, [], ()))
def F13 (g : prodL L13) (K : Kn) : Prop :=
  bif decide (g.2.1 < 1) then (
    F13_J2 K g.1 g.2.1 true)
  else (
    F13_J2 K g.1 g.2.1 (decide (65536 < g.2.1)))
theorem F13_eq (g : prodL L13) (K X : Kn) : F13 g K = dfun D (gamX [] [(23, true, sp23)]) (isRaw []) H13 J13 45 [.tmp 4, .tmp 5] (codeOf Tryd.f13) (argsT S13 L13 g) [] (settle0 K) X := by kernel_rfl
theorem F13_ok (g : prodL L13) (K X : Kn) (h : F13 g K) : FCalls Tryd.prog 13 (argsT S13 L13 g) [] K X :=
  FCalls.settle0 (dfun_sound (Γ := gamX [] [(23, true, sp23)]) (mu := isRaw []) (H := H13) (J := J13) D_ok (gamX_ok (rs := []) (l := [(23, true, sp23)]) (fun p hp => by cases hp) (by intro p hp; simp only [List.mem_cons, List.not_mem_nil, or_false] at hp; subst hp; exact sp23_ok)) gamX_det rfl Tryd.func13 (c := codeOf Tryd.f13) rfl Tryd.ntmps13 (rs := [.tmp 4, .tmp 5]) Tryd.results13 (by unfold enters; rw [Tryd.func13]; kernel_rfl) (Nat.le_of_ble_eq_true (by kernel_rfl)) (X := X) (c0 := 0) (Eq.mp (F13_eq g K X) h))
end Go.Proofs.YtoclmkbjgmgekaaDoor
