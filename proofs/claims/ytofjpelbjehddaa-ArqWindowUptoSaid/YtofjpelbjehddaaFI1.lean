/- What functions come to: printed by exf.py. -/
import Derived.Test.YtofjpelbjehddaaFZ
namespace Go.Proofs.Ytofjpelbjehddaa
set_option linter.unusedVariables false
set_option linter.unusedSimpArgs false
set_option linter.unusedSectionVars false
open Go.RowKit
attribute [local irreducible] dfun dround
/-- quilt/quiltlaw49.awake -/
def H10 : List (Nat × Hint) := [(3, ⟨[((1, []), none)], [(1, .pt 0 0), (2, .leaf), (23, .leaf), (24, .leaf), (25, .leaf)], [.cells [.leaf, .leaf, .leaf, .leaf]], [.int .i64, .sl .str, .int .i64, .int .i64, .int .i64, .int .i64, .sl .str, .sl .i64]⟩)]
def J10 : List (Nat × Hint) := [(13, ⟨[], [(2, .leaf), (5, .leaf), (6, .leaf), (7, .leaf), (8, .leaf), (10, .leaf), (69, .leaf)], [], [.int .i64, .sl .frm, .sl .frm, .sl .frm, .int .i64, .sl .frm, .bool]⟩)]
abbrev S10 : List Sh := []
abbrev L10 : List Lf := []
def F10_J5 (K : Kn) (e_4 : Int) (a_4 : List Frm) (b_4 : List Frm) (c_4 : List Frm) (f_4 : Int) (d_4 : List Frm) (t_4 : Bool) : Prop :=
  bif t_4 then (
    K (.bool false) [])
  else (
    At a_4 1 fun u6 =>
  sp24.pre (0, [], [], u6.ack, u6.number, u6.data, ()) ∧
  At a_4 0 fun u7 =>
  sp24.pre ((acceptOf ⟨0, [], []⟩ u6).1.next, (acceptOf ⟨0, [], []⟩ u6).1.have_, (acceptOf ⟨0, [], []⟩ u6).1.data, u7.ack, u7.number, u7.data, ()) ∧
  bif decide (e_4 = 0) then (
    bif decide (f_4 = 0) then (
      bif decide ((acceptOf ⟨0, [], []⟩ u6).2.2.2 = 0) then (
        bif decide ((acceptOf ((acceptOf ⟨0, [], []⟩ u6).1) u7).2.2.2 = 0) then (
          bif decide ((b_4.length : Int) = 0) then (
            bif decide ((c_4.length : Int) = 2) then (
              At d_4 0 fun u8 =>
              bif decide (u8.number = 2) then (
                bif decide (((((acceptOf ⟨0, [], []⟩ u6).2.1).length : Nat) : Int) = 0) then (
                  sp27.pre ((acceptOf ((acceptOf ⟨0, [], []⟩ u6).1) u7).2.1, [(⟨#[97]⟩ : ByteArray), (⟨#[98]⟩ : ByteArray)], ()) ∧
                  bif decide (((acceptOf ((acceptOf ⟨0, [], []⟩ u6).1) u7).2.1) = [(⟨#[97]⟩ : ByteArray), (⟨#[98]⟩ : ByteArray)]) then (
                    K (.bool (decide ((acceptOf ((acceptOf ⟨0, [], []⟩ u6).1) u7).2.2.1.ack = true) && (decide ((acceptOf ((acceptOf ⟨0, [], []⟩ u6).1) u7).2.2.1.number = 2) && (decide ((acceptOf ((acceptOf ⟨0, [], []⟩ u6).1) u7).2.2.1.data = (⟨#[]⟩ : ByteArray)) && (true))))) [])
                  else (
                    K (.bool false) []))
                else (
                  K (.bool false) []))
              else (
                K (.bool false) []))
            else (
              K (.bool false) []))
          else (
            K (.bool false) []))
        else (
          K (.bool false) []))
      else (
        K (.bool false) []))
    else (
      K (.bool false) []))
  else (
    K (.bool false) []))
def F10_B2 (K : Kn) (W2 : prodL [.int .i64, .sl .str, .int .i64, .int .i64, .int .i64, .int .i64, .sl .str, .sl .i64] → Prop) (e_1 : Int) (t_1 : List ByteArray) (t2_1 : Int) (t3_1 : Int) (s1_1 : Int) (s2_1 : Int) (s3_1 : List ByteArray) (s4_1 : List Int) : Prop :=
  bif decide (t3_1 < t2_1) then (
    At t_1 t3_1 fun u3 =>
  sp13.pre (s1_1, s2_1, s3_1, s4_1, u3, ()) ∧
  W2 (e_1, t_1, t2_1, IntKind.i64.wrap (t3_1 + 1), (offerOf ⟨s1_1, s2_1, s3_1, s4_1⟩ u3).1.base, (offerOf ⟨s1_1, s2_1, s3_1, s4_1⟩ u3).1.window, (offerOf ⟨s1_1, s2_1, s3_1, s4_1⟩ u3).1.data, (offerOf ⟨s1_1, s2_1, s3_1, s4_1⟩ u3).1.sent, ()))
  else (
    sp15.pre (s1_1, s2_1, s3_1, s4_1, 5, ()) ∧
  sp15.pre ((pollOf ⟨s1_1, s2_1, s3_1, s4_1⟩ 5).1.base, (pollOf ⟨s1_1, s2_1, s3_1, s4_1⟩ 5).1.window, (pollOf ⟨s1_1, s2_1, s3_1, s4_1⟩ 5).1.data, (pollOf ⟨s1_1, s2_1, s3_1, s4_1⟩ 5).1.sent, 8, ()) ∧
  sp15.pre ((pollOf ((pollOf ⟨s1_1, s2_1, s3_1, s4_1⟩ 5).1) 8).1.base, (pollOf ((pollOf ⟨s1_1, s2_1, s3_1, s4_1⟩ 5).1) 8).1.window, (pollOf ((pollOf ⟨s1_1, s2_1, s3_1, s4_1⟩ 5).1) 8).1.data, (pollOf ((pollOf ⟨s1_1, s2_1, s3_1, s4_1⟩ 5).1) 8).1.sent, 9, ()) ∧
  sp22.pre ((pollOf ((pollOf ((pollOf ⟨s1_1, s2_1, s3_1, s4_1⟩ 5).1) 8).1) 9).1.base, (pollOf ((pollOf ((pollOf ⟨s1_1, s2_1, s3_1, s4_1⟩ 5).1) 8).1) 9).1.window, (pollOf ((pollOf ((pollOf ⟨s1_1, s2_1, s3_1, s4_1⟩ 5).1) 8).1) 9).1.data, (pollOf ((pollOf ((pollOf ⟨s1_1, s2_1, s3_1, s4_1⟩ 5).1) 8).1) 9).1.sent, true, 1, (⟨#[]⟩ : ByteArray), ()) ∧
  sp15.pre ((ackOf ((pollOf ((pollOf ((pollOf ⟨s1_1, s2_1, s3_1, s4_1⟩ 5).1) 8).1) 9).1) ⟨true, 1, (⟨#[]⟩ : ByteArray)⟩).1.base, (ackOf ((pollOf ((pollOf ((pollOf ⟨s1_1, s2_1, s3_1, s4_1⟩ 5).1) 8).1) 9).1) ⟨true, 1, (⟨#[]⟩ : ByteArray)⟩).1.window, (ackOf ((pollOf ((pollOf ((pollOf ⟨s1_1, s2_1, s3_1, s4_1⟩ 5).1) 8).1) 9).1) ⟨true, 1, (⟨#[]⟩ : ByteArray)⟩).1.data, (ackOf ((pollOf ((pollOf ((pollOf ⟨s1_1, s2_1, s3_1, s4_1⟩ 5).1) 8).1) 9).1) ⟨true, 1, (⟨#[]⟩ : ByteArray)⟩).1.sent, 10, ()) ∧
  bif !decide (((((pollOf ⟨s1_1, s2_1, s3_1, s4_1⟩ 5).2).length : Nat) : Int) = 2) then (
    F10_J5 K e_1 ((pollOf ⟨s1_1, s2_1, s3_1, s4_1⟩ 5).2) ((pollOf ((pollOf ⟨s1_1, s2_1, s3_1, s4_1⟩ 5).1) 8).2) ((pollOf ((pollOf ((pollOf ⟨s1_1, s2_1, s3_1, s4_1⟩ 5).1) 8).1) 9).2) ((ackOf ((pollOf ((pollOf ((pollOf ⟨s1_1, s2_1, s3_1, s4_1⟩ 5).1) 8).1) 9).1) ⟨true, 1, (⟨#[]⟩ : ByteArray)⟩).2) ((pollOf ((ackOf ((pollOf ((pollOf ((pollOf ⟨s1_1, s2_1, s3_1, s4_1⟩ 5).1) 8).1) 9).1) ⟨true, 1, (⟨#[]⟩ : ByteArray)⟩).1) 10).2) true)
  else (
    F10_J5 K e_1 ((pollOf ⟨s1_1, s2_1, s3_1, s4_1⟩ 5).2) ((pollOf ((pollOf ⟨s1_1, s2_1, s3_1, s4_1⟩ 5).1) 8).2) ((pollOf ((pollOf ((pollOf ⟨s1_1, s2_1, s3_1, s4_1⟩ 5).1) 8).1) 9).2) ((ackOf ((pollOf ((pollOf ((pollOf ⟨s1_1, s2_1, s3_1, s4_1⟩ 5).1) 8).1) 9).1) ⟨true, 1, (⟨#[]⟩ : ByteArray)⟩).2) ((pollOf ((ackOf ((pollOf ((pollOf ((pollOf ⟨s1_1, s2_1, s3_1, s4_1⟩ 5).1) 8).1) 9).1) ⟨true, 1, (⟨#[]⟩ : ByteArray)⟩).1) 10).2) (!decide (((((pollOf ((ackOf ((pollOf ((pollOf ((pollOf ⟨s1_1, s2_1, s3_1, s4_1⟩ 5).1) 8).1) 9).1) ⟨true, 1, (⟨#[]⟩ : ByteArray)⟩).1) 10).2).length : Nat) : Int) = 1))))
def F10_L2 (K : Kn) (g : prodL [.int .i64, .sl .str, .int .i64, .int .i64, .int .i64, .int .i64, .sl .str, .sl .i64]) : Prop :=
  LoopW (γ := prodL [.int .i64, .sl .str, .int .i64, .int .i64, .int .i64, .int .i64, .sl .str, .sl .i64]) (fun V y => F10_B2 K V y.1 y.2.1 y.2.2.1 y.2.2.2.1 y.2.2.2.2.1 y.2.2.2.2.2.1 y.2.2.2.2.2.2.1 y.2.2.2.2.2.2.2.1) g
def F10 (g : prodL L10) (K : Kn) : Prop :=
  sp11.pre (2, ()) ∧
  F10_L2 K ((newOf 2).2, [(⟨#[97]⟩ : ByteArray), (⟨#[98]⟩ : ByteArray), (⟨#[99]⟩ : ByteArray)], (([(⟨#[97]⟩ : ByteArray), (⟨#[98]⟩ : ByteArray), (⟨#[99]⟩ : ByteArray)].length : Nat) : Int), 0, (newOf 2).1.base, (newOf 2).1.window, (newOf 2).1.data, (newOf 2).1.sent, ())
theorem F10_eq (g : prodL L10) (K X : Kn) : F10 g K = dfun D (gamX [] [(11, false, sp11), (13, false, sp13), (15, false, sp15), (22, false, sp22), (24, false, sp24), (27, true, sp27)]) (isRaw []) H10 J10 136 [.tmp 0] (codeOf Try.f10) (argsT S10 L10 g) [] (settle0 K) X := by kernel_rfl
theorem F10_ok (g : prodL L10) (K X : Kn) (h : F10 g K) : FCalls Try.prog 10 (argsT S10 L10 g) [] K X :=
  FCalls.settle0 (dfun_sound (Γ := gamX [] [(11, false, sp11), (13, false, sp13), (15, false, sp15), (22, false, sp22), (24, false, sp24), (27, true, sp27)]) (mu := isRaw []) (H := H10) (J := J10) D_ok (gamX_ok (rs := []) (l := [(11, false, sp11), (13, false, sp13), (15, false, sp15), (22, false, sp22), (24, false, sp24), (27, true, sp27)]) (fun p hp => by cases hp) (by intro p hp; simp only [List.mem_cons, List.not_mem_nil, or_false] at hp; rcases hp with rfl | rfl | rfl | rfl | rfl | rfl <;> first | exact sp11_ok | exact sp13_ok | exact sp15_ok | exact sp22_ok | exact sp24_ok | exact sp27_ok)) gamX_det rfl Try.func10 (c := codeOf Try.f10) rfl Try.ntmps10 (rs := [.tmp 0]) Try.results10 (by unfold enters; rw [Try.func10]; kernel_rfl) (Nat.le_of_ble_eq_true (by kernel_rfl)) (X := X) (c0 := 0) (Eq.mp (F10_eq g K X) h))
end Go.Proofs.Ytofjpelbjehddaa
