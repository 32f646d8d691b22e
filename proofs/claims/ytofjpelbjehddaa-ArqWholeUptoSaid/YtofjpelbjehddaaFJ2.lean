/- What functions come to: printed by exf.py. -/
import Derived.Test.YtofjpelbjehddaaGA
namespace Go.Proofs.Ytofjpelbjehddaa
set_option linter.unusedVariables false
set_option linter.unusedSimpArgs false
open Go.RowKit
/-- quilt/quiltlaw49.ArqOrder -/
def H6 : List (Nat × Hint) := [(4, ⟨[], [(0, .leaf), (1, .leaf), (24, .leaf), (25, .leaf), (26, .leaf)], [], [.sl .str, .sl .u8, .sl .str, .int .i64, .int .i64]⟩), (12, ⟨[((7, []), none), ((8, []), some .str)], [(0, .leaf), (1, .leaf), (7, .pt 0 0), (8, .oa .str 1), (40, .leaf), (41, .leaf)], [.cells [.leaf, .leaf, .leaf], .arr .str], [.sl .str, .sl .u8, .int .i64, .int .i64, .int .i64, .sl .boo, .sl .str, .sl .str]⟩)]
def J6 : List (Nat × Hint) := [(2, ⟨[], [(0, .leaf), (1, .leaf), (22, .leaf)], [], [.sl .str, .sl .u8, .bool]⟩), (18, ⟨[((7, []), none), ((8, []), none)], [(0, .leaf), (1, .leaf), (7, .pt 0 0), (8, .oa .str 1), (10, .leaf), (40, .leaf), (41, .leaf)], [.cells [.leaf, .leaf, .leaf], .arr .str], [.sl .str, .sl .u8, .int .i64, .int .i64, .int .i64, .int .i64, .sl .boo, .sl .str, .sl .str]⟩), (21, ⟨[((7, []), none), ((8, []), none), ((11, []), none)], [(0, .leaf), (1, .leaf), (7, .pt 0 0), (8, .oa .str 1), (11, .pt 2 0), (40, .leaf), (41, .leaf), (120, .leaf)], [.cells [.leaf, .leaf, .leaf], .arr .str, .cells [.leaf, .leaf, .leaf]], [.sl .str, .sl .u8, .int .i64, .int .i64, .bool, .int .i64, .sl .boo, .sl .str, .sl .str, .int .i64, .sl .boo, .sl .str]⟩), (23, ⟨[((7, []), none), ((8, []), none)], [(0, .leaf), (1, .leaf), (7, .pt 0 0), (8, .oa .str 1), (40, .leaf), (41, .leaf)], [.cells [.leaf, .leaf, .leaf], .arr .str], [.sl .str, .sl .u8, .int .i64, .int .i64, .int .i64, .sl .boo, .sl .str, .sl .str]⟩)]
abbrev S6 : List Sh := [.leaf, .leaf]
abbrev L6 : List Lf := [.sl .str, .sl .u8]
def F6_J25 (K : Kn) (W17 : prodL [.sl .str, .sl .u8, .int .i64, .int .i64, .int .i64, .sl .boo, .sl .str, .sl .str] → Prop) (data_24 : List ByteArray) (arrivals_24 : List Int) (t_24 : Int) (t2_24 : Int) (r1_24 : Int) (r2_24 : List Bool) (r3_24 : List ByteArray) (got_24 : List ByteArray) : Prop :=
  W17 (data_24, arrivals_24, t_24, IntKind.i64.wrap (t2_24 + 1), r1_24, r2_24, r3_24, got_24, ())
def F6_J22 (K : Kn) (W17 : prodL [.sl .str, .sl .u8, .int .i64, .int .i64, .int .i64, .sl .boo, .sl .str, .sl .str] → Prop) (data_21 : List ByteArray) (arrivals_21 : List Int) (t_21 : Int) (t2_21 : Int) (t3_21 : Bool) (r1_21 : Int) (r2_21 : List Bool) (r3_21 : List ByteArray) (got_21 : List ByteArray) (next1_21 : Int) (next2_21 : List Bool) (next3_21 : List ByteArray) : Prop :=
  bif t3_21 then (
    K (.bool false) [])
  else (
    F6_J25 K W17 data_21 arrivals_21 t_21 t2_21 next1_21 next2_21 next3_21 got_21)
def F6_J23 (K : Kn) (W17 : prodL [.sl .str, .sl .u8, .int .i64, .int .i64, .int .i64, .sl .boo, .sl .str, .sl .str] → Prop) (data_19 : List ByteArray) (arrivals_19 : List Int) (k_19 : Int) (t_19 : Int) (t2_19 : Int) (r1_19 : Int) (r2_19 : List Bool) (r3_19 : List ByteArray) (got_19 : List ByteArray) : Prop :=
  At data_19 k_19 fun u20 =>
  sp24.pre (r1_19, r2_19, r3_19, false, k_19, u20, ()) ∧
  Room (got_19.length + ((acceptOf ⟨r1_19, r2_19, r3_19⟩ ⟨false, k_19, u20⟩).2.1).length) 16 (
  bif !decide ((acceptOf ⟨r1_19, r2_19, r3_19⟩ ⟨false, k_19, u20⟩).2.2.2 = 0) then (
    F6_J22 K W17 data_19 arrivals_19 t_19 t2_19 true r1_19 r2_19 r3_19 (got_19 ++ ((acceptOf ⟨r1_19, r2_19, r3_19⟩ ⟨false, k_19, u20⟩).2.1)) ((acceptOf ⟨r1_19, r2_19, r3_19⟩ ⟨false, k_19, u20⟩).1.next) ((acceptOf ⟨r1_19, r2_19, r3_19⟩ ⟨false, k_19, u20⟩).1.have_) ((acceptOf ⟨r1_19, r2_19, r3_19⟩ ⟨false, k_19, u20⟩).1.data))
  else (
    bif !((acceptOf ⟨r1_19, r2_19, r3_19⟩ ⟨false, k_19, u20⟩).2.2.1.ack) then (
      F6_J22 K W17 data_19 arrivals_19 t_19 t2_19 true r1_19 r2_19 r3_19 (got_19 ++ ((acceptOf ⟨r1_19, r2_19, r3_19⟩ ⟨false, k_19, u20⟩).2.1)) ((acceptOf ⟨r1_19, r2_19, r3_19⟩ ⟨false, k_19, u20⟩).1.next) ((acceptOf ⟨r1_19, r2_19, r3_19⟩ ⟨false, k_19, u20⟩).1.have_) ((acceptOf ⟨r1_19, r2_19, r3_19⟩ ⟨false, k_19, u20⟩).1.data))
    else (
      bif !decide ((acceptOf ⟨r1_19, r2_19, r3_19⟩ ⟨false, k_19, u20⟩).2.2.1.data = (⟨#[]⟩ : ByteArray)) then (
        F6_J22 K W17 data_19 arrivals_19 t_19 t2_19 true r1_19 r2_19 r3_19 (got_19 ++ ((acceptOf ⟨r1_19, r2_19, r3_19⟩ ⟨false, k_19, u20⟩).2.1)) ((acceptOf ⟨r1_19, r2_19, r3_19⟩ ⟨false, k_19, u20⟩).1.next) ((acceptOf ⟨r1_19, r2_19, r3_19⟩ ⟨false, k_19, u20⟩).1.have_) ((acceptOf ⟨r1_19, r2_19, r3_19⟩ ⟨false, k_19, u20⟩).1.data))
      else (
        bif !decide ((acceptOf ⟨r1_19, r2_19, r3_19⟩ ⟨false, k_19, u20⟩).2.2.1.number = (acceptOf ⟨r1_19, r2_19, r3_19⟩ ⟨false, k_19, u20⟩).1.next) then (
          F6_J22 K W17 data_19 arrivals_19 t_19 t2_19 true r1_19 r2_19 r3_19 (got_19 ++ ((acceptOf ⟨r1_19, r2_19, r3_19⟩ ⟨false, k_19, u20⟩).2.1)) ((acceptOf ⟨r1_19, r2_19, r3_19⟩ ⟨false, k_19, u20⟩).1.next) ((acceptOf ⟨r1_19, r2_19, r3_19⟩ ⟨false, k_19, u20⟩).1.have_) ((acceptOf ⟨r1_19, r2_19, r3_19⟩ ⟨false, k_19, u20⟩).1.data))
        else (
          bif !decide ((((got_19 ++ ((acceptOf ⟨r1_19, r2_19, r3_19⟩ ⟨false, k_19, u20⟩).2.1)).length : Nat) : Int) = (acceptOf ⟨r1_19, r2_19, r3_19⟩ ⟨false, k_19, u20⟩).1.next) then (
            F6_J22 K W17 data_19 arrivals_19 t_19 t2_19 true r1_19 r2_19 r3_19 (got_19 ++ ((acceptOf ⟨r1_19, r2_19, r3_19⟩ ⟨false, k_19, u20⟩).2.1)) ((acceptOf ⟨r1_19, r2_19, r3_19⟩ ⟨false, k_19, u20⟩).1.next) ((acceptOf ⟨r1_19, r2_19, r3_19⟩ ⟨false, k_19, u20⟩).1.have_) ((acceptOf ⟨r1_19, r2_19, r3_19⟩ ⟨false, k_19, u20⟩).1.data))
          else (
            bif decide ((data_19.length : Int) < (((got_19 ++ ((acceptOf ⟨r1_19, r2_19, r3_19⟩ ⟨false, k_19, u20⟩).2.1)).length : Nat) : Int)) then (
              F6_J22 K W17 data_19 arrivals_19 t_19 t2_19 true r1_19 r2_19 r3_19 (got_19 ++ ((acceptOf ⟨r1_19, r2_19, r3_19⟩ ⟨false, k_19, u20⟩).2.1)) ((acceptOf ⟨r1_19, r2_19, r3_19⟩ ⟨false, k_19, u20⟩).1.next) ((acceptOf ⟨r1_19, r2_19, r3_19⟩ ⟨false, k_19, u20⟩).1.have_) ((acceptOf ⟨r1_19, r2_19, r3_19⟩ ⟨false, k_19, u20⟩).1.data))
            else (
              (0 : Int) ≤ 0 ∧ 0 ≤ (((got_19 ++ ((acceptOf ⟨r1_19, r2_19, r3_19⟩ ⟨false, k_19, u20⟩).2.1)).length : Nat) : Int) ∧ (((got_19 ++ ((acceptOf ⟨r1_19, r2_19, r3_19⟩ ⟨false, k_19, u20⟩).2.1)).length : Nat) : Int) ≤ (data_19.length : Int) ∧
              sp27.pre (got_19 ++ ((acceptOf ⟨r1_19, r2_19, r3_19⟩ ⟨false, k_19, u20⟩).2.1), (data_19.take ((((got_19 ++ ((acceptOf ⟨r1_19, r2_19, r3_19⟩ ⟨false, k_19, u20⟩).2.1)).length : Nat) : Int).toNat)).drop ((0 : Int).toNat), ()) ∧
              F6_J22 K W17 data_19 arrivals_19 t_19 t2_19 (!(decide ((got_19 ++ ((acceptOf ⟨r1_19, r2_19, r3_19⟩ ⟨false, k_19, u20⟩).2.1)) = ((data_19.take ((((got_19 ++ ((acceptOf ⟨r1_19, r2_19, r3_19⟩ ⟨false, k_19, u20⟩).2.1)).length : Nat) : Int).toNat)).drop ((0 : Int).toNat))))) r1_19 r2_19 r3_19 (got_19 ++ ((acceptOf ⟨r1_19, r2_19, r3_19⟩ ⟨false, k_19, u20⟩).2.1)) ((acceptOf ⟨r1_19, r2_19, r3_19⟩ ⟨false, k_19, u20⟩).1.next) ((acceptOf ⟨r1_19, r2_19, r3_19⟩ ⟨false, k_19, u20⟩).1.have_) ((acceptOf ⟨r1_19, r2_19, r3_19⟩ ⟨false, k_19, u20⟩).1.data))))))))
def F6_B17 (K : Kn) (W17 : prodL [.sl .str, .sl .u8, .int .i64, .int .i64, .int .i64, .sl .boo, .sl .str, .sl .str] → Prop) (data_16 : List ByteArray) (arrivals_16 : List Int) (t_16 : Int) (t2_16 : Int) (r1_16 : Int) (r2_16 : List Bool) (r3_16 : List ByteArray) (got_16 : List ByteArray) : Prop :=
  bif decide (t2_16 < t_16) then (
    bif decide (t2_16 < (arrivals_16.length : Int)) then (
    bif decide ((data_16.length : Int) = 0) then (
      F6_J25 K W17 data_16 arrivals_16 t_16 t2_16 r1_16 r2_16 r3_16 got_16)
    else (
      At arrivals_16 t2_16 fun u18 =>
    ¬ (data_16.length : Int) = (0 : Int) ∧
    F6_J23 K W17 data_16 arrivals_16 (Int.tmod (IntKind.i64.wrap u18) (data_16.length : Int)) t_16 t2_16 r1_16 r2_16 r3_16 got_16))
  else (
    F6_J23 K W17 data_16 arrivals_16 (IntKind.i64.wrap (t2_16 - (arrivals_16.length : Int))) t_16 t2_16 r1_16 r2_16 r3_16 got_16))
  else (
    bif decide ((got_16.length : Int) = (data_16.length : Int)) then (
    bif decide ((r2_16.length : Int) = 0) then (
      sp10.pre (()) ∧
      K (.bool true) [])
    else (
      K (.bool false) []))
  else (
    K (.bool false) []))
def F6_L17 (K : Kn) (g : prodL [.sl .str, .sl .u8, .int .i64, .int .i64, .int .i64, .sl .boo, .sl .str, .sl .str]) : Prop :=
  LoopW (γ := prodL [.sl .str, .sl .u8, .int .i64, .int .i64, .int .i64, .sl .boo, .sl .str, .sl .str]) (fun V y => F6_B17 K V y.1 y.2.1 y.2.2.1 y.2.2.2.1 y.2.2.2.2.1 y.2.2.2.2.2.1 y.2.2.2.2.2.2.1 y.2.2.2.2.2.2.2.1) g
def F6_B4 (K : Kn) (W4 : prodL [.sl .str, .sl .u8, .sl .str, .int .i64, .int .i64] → Prop) (data_3 : List ByteArray) (arrivals_3 : List Int) (t_3 : List ByteArray) (t2_3 : Int) (t3_3 : Int) : Prop :=
  bif decide (t3_3 < t2_3) then (
    At t_3 t3_3 fun u5 =>
  bif decide (20 < (u5.size : Int)) then (
    sp10.pre (()) ∧
    K (.bool true) [])
  else (
    W4 (data_3, arrivals_3, t_3, t2_3, IntKind.i64.wrap (t3_3 + 1), ())))
  else (
    F6_L17 K (data_3, arrivals_3, IntKind.i64.wrap ((arrivals_3.length : Int) + (data_3.length : Int)), 0, 0, [], [], [], ()))
def F6_L4 (K : Kn) (g : prodL [.sl .str, .sl .u8, .sl .str, .int .i64, .int .i64]) : Prop :=
  LoopW (γ := prodL [.sl .str, .sl .u8, .sl .str, .int .i64, .int .i64]) (fun V y => F6_B4 K V y.1 y.2.1 y.2.2.1 y.2.2.2.1 y.2.2.2.2.1) g
def F6_J2 (K : Kn) (data_1 : List ByteArray) (arrivals_1 : List Int) (t_1 : Bool) : Prop :=
  bif t_1 then (
    sp10.pre (()) ∧
    K (.bool true) [])
  else (
    F6_L4 K (data_1, arrivals_1, data_1, (data_1.length : Int), 0, ()))
def F6 (g : prodL L6) (K : Kn) : Prop :=
  bif decide (30 < (g.1.length : Int)) then (
    F6_J2 K g.1 g.2.1 true)
  else (
    F6_J2 K g.1 g.2.1 (decide (60 < (g.2.1.length : Int))))
theorem F6_eq (g : prodL L6) (K X : Kn) : F6 g K = dfun D (gamX [] [(10, true, sp10), (24, false, sp24), (27, true, sp27)]) (isRaw []) H6 J6 137 [.tmp 4] (codeOf Try.f6) (argsT S6 L6 g) [] (settle0 K) X := by kernel_rfl
theorem F6_ok (g : prodL L6) (K X : Kn) (h : F6 g K) : FCalls Try.prog 6 (argsT S6 L6 g) [] K X :=
  FCalls.settle0 (dfun_sound (Γ := gamX [] [(10, true, sp10), (24, false, sp24), (27, true, sp27)]) (mu := isRaw []) (H := H6) (J := J6) D_ok (gamX_ok (rs := []) (l := [(10, true, sp10), (24, false, sp24), (27, true, sp27)]) (fun p hp => by cases hp) (by intro p hp; simp only [List.mem_cons, List.not_mem_nil, or_false] at hp; rcases hp with rfl | rfl | rfl <;> first | exact sp10_ok | exact sp24_ok | exact sp27_ok)) gamX_det rfl Try.func6 (c := codeOf Try.f6) rfl Try.ntmps6 Try.results6 (by unfold enters; rw [Try.func6]; kernel_rfl) (Nat.le_of_ble_eq_true (by kernel_rfl)) (X := X) (c0 := 0) (by rw [F6_eq g K X] at h; exact h))
end Go.Proofs.Ytofjpelbjehddaa
