/- What functions come to: printed by exf.py. -/
import Derived.Test.YtofjpelbjehddaaGA
namespace Go.Proofs.Ytofjpelbjehddaa
set_option linter.unusedVariables false
set_option linter.unusedSimpArgs false
set_option linter.unusedSectionVars false
open Go.RowKit
attribute [local irreducible] dfun dround
/-- quilt/quiltlaw49.ArqSender -/
def H3 : List (Nat × Hint) := []
def J3 : List (Nat × Hint) := [(2, ⟨[((3, []), none)], [(1, .leaf), (2, .leaf), (3, .pt 0 0), (25, .leaf)], [.cells [.leaf, .leaf, .leaf, .leaf]], [.str, .int .i64, .bool, .int .i64, .int .i64, .sl .str, .sl .i64]⟩)]
abbrev S3 : List Sh := [.ag [.leaf, .leaf, .leaf, .leaf], .leaf, .leaf]
abbrev L3 : List Lf := [.int .i64, .int .i64, .sl .str, .sl .i64, .str, .int .i64]
def F3_J2 (K : Kn) (data_1 : ByteArray) (n_1 : Int) (t_1 : Bool) (s1_1 : Int) (s2_1 : Int) (s3_1 : List ByteArray) (s4_1 : List Int) : Prop :=
  bif t_1 then (
    sp10.pre (()) ∧
    K (.bool true) [])
  else (
    sp11.pre (n_1, ()) ∧
  sp12.pre (n_1, ()) ∧
  sp13.pre (s1_1, s2_1, s3_1, s4_1, data_1, ()) ∧
  sp14.pre (s1_1, s2_1, s3_1, s4_1, data_1, ()) ∧
  sp15.pre (s1_1, s2_1, s3_1, s4_1, n_1, ()) ∧
  sp16.pre (s1_1, s2_1, s3_1, s4_1, n_1, ()) ∧
  sp17.pre ((newOf n_1).1.base, (newOf n_1).1.window, (newOf n_1).1.data, (newOf n_1).1.sent, (newOf n_1).1.base, (newOf n_1).1.window, (newOf n_1).1.data, (newOf n_1).1.sent, ()) ∧
  bif decide ((((newOf n_1).1) : Snd) = ((newOf n_1).1)) then (
    bif decide ((newOf n_1).2 = (newOf n_1).2) then (
      sp17.pre ((offerOf ⟨s1_1, s2_1, s3_1, s4_1⟩ data_1).1.base, (offerOf ⟨s1_1, s2_1, s3_1, s4_1⟩ data_1).1.window, (offerOf ⟨s1_1, s2_1, s3_1, s4_1⟩ data_1).1.data, (offerOf ⟨s1_1, s2_1, s3_1, s4_1⟩ data_1).1.sent, (offerOf ⟨s1_1, s2_1, s3_1, s4_1⟩ data_1).1.base, (offerOf ⟨s1_1, s2_1, s3_1, s4_1⟩ data_1).1.window, (offerOf ⟨s1_1, s2_1, s3_1, s4_1⟩ data_1).1.data, (offerOf ⟨s1_1, s2_1, s3_1, s4_1⟩ data_1).1.sent, ()) ∧
      bif decide ((((offerOf ⟨s1_1, s2_1, s3_1, s4_1⟩ data_1).1) : Snd) = ((offerOf ⟨s1_1, s2_1, s3_1, s4_1⟩ data_1).1)) then (
        bif decide ((offerOf ⟨s1_1, s2_1, s3_1, s4_1⟩ data_1).2 = (offerOf ⟨s1_1, s2_1, s3_1, s4_1⟩ data_1).2) then (
          sp17.pre ((pollOf ⟨s1_1, s2_1, s3_1, s4_1⟩ n_1).1.base, (pollOf ⟨s1_1, s2_1, s3_1, s4_1⟩ n_1).1.window, (pollOf ⟨s1_1, s2_1, s3_1, s4_1⟩ n_1).1.data, (pollOf ⟨s1_1, s2_1, s3_1, s4_1⟩ n_1).1.sent, (pollOf ⟨s1_1, s2_1, s3_1, s4_1⟩ n_1).1.base, (pollOf ⟨s1_1, s2_1, s3_1, s4_1⟩ n_1).1.window, (pollOf ⟨s1_1, s2_1, s3_1, s4_1⟩ n_1).1.data, (pollOf ⟨s1_1, s2_1, s3_1, s4_1⟩ n_1).1.sent, ()) ∧
          bif decide ((((pollOf ⟨s1_1, s2_1, s3_1, s4_1⟩ n_1).1) : Snd) = ((pollOf ⟨s1_1, s2_1, s3_1, s4_1⟩ n_1).1)) then (
            sp18.pre ((pollOf ⟨s1_1, s2_1, s3_1, s4_1⟩ n_1).2, (pollOf ⟨s1_1, s2_1, s3_1, s4_1⟩ n_1).2, ()) ∧
            bif decide (((pollOf ⟨s1_1, s2_1, s3_1, s4_1⟩ n_1).2) = ((pollOf ⟨s1_1, s2_1, s3_1, s4_1⟩ n_1).2)) then (
              sp19.pre (s1_1, s2_1, s3_1, s4_1, ()) ∧
              sp20.pre (s1_1, s2_1, s3_1, s4_1, ()) ∧
              bif decide (Snd.err ⟨s1_1, s2_1, s3_1, s4_1⟩ = Snd.err ⟨s1_1, s2_1, s3_1, s4_1⟩) then (
                sp10.pre (()) ∧
                K (.bool true) [])
              else (
                K (.bool false) []))
            else (
              K (.bool false) []))
          else (
            K (.bool false) []))
        else (
          K (.bool false) []))
      else (
        K (.bool false) []))
    else (
      K (.bool false) []))
  else (
    K (.bool false) []))
def F3 (g : prodL L3) (K : Kn) : Prop :=
  sp9.pre (g.1, g.2.1, g.2.2.1, g.2.2.2.1, ()) ∧
  bif greatS g.2.2.1 g.2.2.2.1.length then (
    F3_J2 K g.2.2.2.2.1 g.2.2.2.2.2.1 true g.1 g.2.1 g.2.2.1 g.2.2.2.1)
  else (
    F3_J2 K g.2.2.2.2.1 g.2.2.2.2.2.1 (decide (1000 < (g.2.2.2.2.1.size : Int))) g.1 g.2.1 g.2.2.1 g.2.2.2.1)
theorem F3_eq (g : prodL L3) (K X : Kn) : F3 g K = dfun D (gamX [] [(9, true, sp9), (10, true, sp10), (11, false, sp11), (12, false, sp12), (13, false, sp13), (14, false, sp14), (15, false, sp15), (16, false, sp16), (17, true, sp17), (18, true, sp18), (19, true, sp19), (20, true, sp20)]) (isRaw []) H3 J3 99 [.tmp 6] (codeOf Try.f3) (argsT S3 L3 g) [] (settle0 K) X := by kernel_rfl
theorem F3_ok (g : prodL L3) (K X : Kn) (h : F3 g K) : FCalls Try.prog 3 (argsT S3 L3 g) [] K X :=
  FCalls.settle0 (dfun_sound (Γ := gamX [] [(9, true, sp9), (10, true, sp10), (11, false, sp11), (12, false, sp12), (13, false, sp13), (14, false, sp14), (15, false, sp15), (16, false, sp16), (17, true, sp17), (18, true, sp18), (19, true, sp19), (20, true, sp20)]) (mu := isRaw []) (H := H3) (J := J3) D_ok (gamX_ok (rs := []) (l := [(9, true, sp9), (10, true, sp10), (11, false, sp11), (12, false, sp12), (13, false, sp13), (14, false, sp14), (15, false, sp15), (16, false, sp16), (17, true, sp17), (18, true, sp18), (19, true, sp19), (20, true, sp20)]) (fun p hp => by cases hp) (by intro p hp; simp only [List.mem_cons, List.not_mem_nil, or_false] at hp; rcases hp with rfl | rfl | rfl | rfl | rfl | rfl | rfl | rfl | rfl | rfl | rfl | rfl <;> first | exact sp9_ok | exact sp10_ok | exact sp11_ok | exact sp12_ok | exact sp13_ok | exact sp14_ok | exact sp15_ok | exact sp16_ok | exact sp17_ok | exact sp18_ok | exact sp19_ok | exact sp20_ok)) gamX_det rfl Try.func3 (c := codeOf Try.f3) rfl Try.ntmps3 (rs := [.tmp 6]) Try.results3 (by unfold enters; rw [Try.func3]; kernel_rfl) (Nat.le_of_ble_eq_true (by kernel_rfl)) (X := X) (c0 := 0) (Eq.mp (F3_eq g K X) h))
/-- quilt/quiltlaw49.ArqFrames -/
def H4 : List (Nat × Hint) := []
def J4 : List (Nat × Hint) := [(2, ⟨[((3, []), none), ((4, []), none), ((5, []), none)], [(3, .pt 0 0), (4, .pt 1 0), (5, .pt 2 0), (30, .leaf)], [.cells [.leaf, .leaf, .leaf, .leaf], .cells [.leaf, .leaf, .leaf], .cells [.leaf, .leaf, .leaf]], [.bool, .int .i64, .int .i64, .sl .str, .sl .i64, .int .i64, .sl .boo, .sl .str, .bool, .int .i64, .str]⟩)]
abbrev S4 : List Sh := [.ag [.leaf, .leaf, .leaf, .leaf], .ag [.leaf, .leaf, .leaf], .ag [.leaf, .leaf, .leaf]]
abbrev L4 : List Lf := [.int .i64, .int .i64, .sl .str, .sl .i64, .int .i64, .sl .boo, .sl .str, .bool, .int .i64, .str]
def F4_J2 (K : Kn) (t_1 : Bool) (s1_1 : Int) (s2_1 : Int) (s3_1 : List ByteArray) (s4_1 : List Int) (r1_1 : Int) (r2_1 : List Bool) (r3_1 : List ByteArray) (f1_1 : Bool) (f2_1 : Int) (f3_1 : ByteArray) : Prop :=
  bif t_1 then (
    sp10.pre (()) ∧
    K (.bool true) [])
  else (
    sp22.pre (s1_1, s2_1, s3_1, s4_1, f1_1, f2_1, f3_1, ()) ∧
  sp23.pre (s1_1, s2_1, s3_1, s4_1, f1_1, f2_1, f3_1, ()) ∧
  sp24.pre (r1_1, r2_1, r3_1, f1_1, f2_1, f3_1, ()) ∧
  sp25.pre (r1_1, r2_1, r3_1, f1_1, f2_1, f3_1, ()) ∧
  sp17.pre ((ackOf ⟨s1_1, s2_1, s3_1, s4_1⟩ ⟨f1_1, f2_1, f3_1⟩).1.base, (ackOf ⟨s1_1, s2_1, s3_1, s4_1⟩ ⟨f1_1, f2_1, f3_1⟩).1.window, (ackOf ⟨s1_1, s2_1, s3_1, s4_1⟩ ⟨f1_1, f2_1, f3_1⟩).1.data, (ackOf ⟨s1_1, s2_1, s3_1, s4_1⟩ ⟨f1_1, f2_1, f3_1⟩).1.sent, (ackOf ⟨s1_1, s2_1, s3_1, s4_1⟩ ⟨f1_1, f2_1, f3_1⟩).1.base, (ackOf ⟨s1_1, s2_1, s3_1, s4_1⟩ ⟨f1_1, f2_1, f3_1⟩).1.window, (ackOf ⟨s1_1, s2_1, s3_1, s4_1⟩ ⟨f1_1, f2_1, f3_1⟩).1.data, (ackOf ⟨s1_1, s2_1, s3_1, s4_1⟩ ⟨f1_1, f2_1, f3_1⟩).1.sent, ()) ∧
  bif decide ((((ackOf ⟨s1_1, s2_1, s3_1, s4_1⟩ ⟨f1_1, f2_1, f3_1⟩).1) : Snd) = ((ackOf ⟨s1_1, s2_1, s3_1, s4_1⟩ ⟨f1_1, f2_1, f3_1⟩).1)) then (
    bif decide ((ackOf ⟨s1_1, s2_1, s3_1, s4_1⟩ ⟨f1_1, f2_1, f3_1⟩).2 = (ackOf ⟨s1_1, s2_1, s3_1, s4_1⟩ ⟨f1_1, f2_1, f3_1⟩).2) then (
      sp26.pre ((acceptOf ⟨r1_1, r2_1, r3_1⟩ ⟨f1_1, f2_1, f3_1⟩).1.next, (acceptOf ⟨r1_1, r2_1, r3_1⟩ ⟨f1_1, f2_1, f3_1⟩).1.have_, (acceptOf ⟨r1_1, r2_1, r3_1⟩ ⟨f1_1, f2_1, f3_1⟩).1.data, (acceptOf ⟨r1_1, r2_1, r3_1⟩ ⟨f1_1, f2_1, f3_1⟩).1.next, (acceptOf ⟨r1_1, r2_1, r3_1⟩ ⟨f1_1, f2_1, f3_1⟩).1.have_, (acceptOf ⟨r1_1, r2_1, r3_1⟩ ⟨f1_1, f2_1, f3_1⟩).1.data, ()) ∧
      bif decide ((((acceptOf ⟨r1_1, r2_1, r3_1⟩ ⟨f1_1, f2_1, f3_1⟩).1) : Rcv) = ((acceptOf ⟨r1_1, r2_1, r3_1⟩ ⟨f1_1, f2_1, f3_1⟩).1)) then (
        sp27.pre ((acceptOf ⟨r1_1, r2_1, r3_1⟩ ⟨f1_1, f2_1, f3_1⟩).2.1, (acceptOf ⟨r1_1, r2_1, r3_1⟩ ⟨f1_1, f2_1, f3_1⟩).2.1, ()) ∧
        bif decide (((acceptOf ⟨r1_1, r2_1, r3_1⟩ ⟨f1_1, f2_1, f3_1⟩).2.1) = ((acceptOf ⟨r1_1, r2_1, r3_1⟩ ⟨f1_1, f2_1, f3_1⟩).2.1)) then (
          bif decide ((acceptOf ⟨r1_1, r2_1, r3_1⟩ ⟨f1_1, f2_1, f3_1⟩).2.2.1.ack = (acceptOf ⟨r1_1, r2_1, r3_1⟩ ⟨f1_1, f2_1, f3_1⟩).2.2.1.ack) && (decide ((acceptOf ⟨r1_1, r2_1, r3_1⟩ ⟨f1_1, f2_1, f3_1⟩).2.2.1.number = (acceptOf ⟨r1_1, r2_1, r3_1⟩ ⟨f1_1, f2_1, f3_1⟩).2.2.1.number) && (decide ((acceptOf ⟨r1_1, r2_1, r3_1⟩ ⟨f1_1, f2_1, f3_1⟩).2.2.1.data = (acceptOf ⟨r1_1, r2_1, r3_1⟩ ⟨f1_1, f2_1, f3_1⟩).2.2.1.data) && (true))) then (
            bif decide ((acceptOf ⟨r1_1, r2_1, r3_1⟩ ⟨f1_1, f2_1, f3_1⟩).2.2.2 = (acceptOf ⟨r1_1, r2_1, r3_1⟩ ⟨f1_1, f2_1, f3_1⟩).2.2.2) then (
              sp10.pre (()) ∧
              K (.bool true) [])
            else (
              K (.bool false) []))
          else (
            K (.bool false) []))
        else (
          K (.bool false) []))
      else (
        K (.bool false) []))
    else (
      K (.bool false) []))
  else (
    K (.bool false) []))
def F4 (g : prodL L4) (K : Kn) : Prop :=
  sp9.pre (g.1, g.2.1, g.2.2.1, g.2.2.2.1, ()) ∧
  bif greatS g.2.2.1 g.2.2.2.1.length then (
    F4_J2 K true g.1 g.2.1 g.2.2.1 g.2.2.2.1 g.2.2.2.2.1 g.2.2.2.2.2.1 g.2.2.2.2.2.2.1 g.2.2.2.2.2.2.2.1 g.2.2.2.2.2.2.2.2.1 g.2.2.2.2.2.2.2.2.2.1)
  else (
    sp21.pre (g.2.2.2.2.1, g.2.2.2.2.2.1, g.2.2.2.2.2.2.1, ()) ∧
    bif greatR g.2.2.2.2.2.1.length g.2.2.2.2.2.2.1 then (
      F4_J2 K true g.1 g.2.1 g.2.2.1 g.2.2.2.1 g.2.2.2.2.1 g.2.2.2.2.2.1 g.2.2.2.2.2.2.1 g.2.2.2.2.2.2.2.1 g.2.2.2.2.2.2.2.2.1 g.2.2.2.2.2.2.2.2.2.1)
    else (
      F4_J2 K (decide (1000 < (g.2.2.2.2.2.2.2.2.2.1.size : Int))) g.1 g.2.1 g.2.2.1 g.2.2.2.1 g.2.2.2.2.1 g.2.2.2.2.2.1 g.2.2.2.2.2.2.1 g.2.2.2.2.2.2.2.1 g.2.2.2.2.2.2.2.2.1 g.2.2.2.2.2.2.2.2.2.1))
theorem F4_eq (g : prodL L4) (K X : Kn) : F4 g K = dfun D (gamX [] [(9, true, sp9), (10, true, sp10), (17, true, sp17), (21, true, sp21), (22, false, sp22), (23, false, sp23), (24, false, sp24), (25, false, sp25), (26, true, sp26), (27, true, sp27)]) (isRaw []) H4 J4 91 [.tmp 6] (codeOf Try.f4) (argsT S4 L4 g) [] (settle0 K) X := by kernel_rfl
theorem F4_ok (g : prodL L4) (K X : Kn) (h : F4 g K) : FCalls Try.prog 4 (argsT S4 L4 g) [] K X :=
  FCalls.settle0 (dfun_sound (Γ := gamX [] [(9, true, sp9), (10, true, sp10), (17, true, sp17), (21, true, sp21), (22, false, sp22), (23, false, sp23), (24, false, sp24), (25, false, sp25), (26, true, sp26), (27, true, sp27)]) (mu := isRaw []) (H := H4) (J := J4) D_ok (gamX_ok (rs := []) (l := [(9, true, sp9), (10, true, sp10), (17, true, sp17), (21, true, sp21), (22, false, sp22), (23, false, sp23), (24, false, sp24), (25, false, sp25), (26, true, sp26), (27, true, sp27)]) (fun p hp => by cases hp) (by intro p hp; simp only [List.mem_cons, List.not_mem_nil, or_false] at hp; rcases hp with rfl | rfl | rfl | rfl | rfl | rfl | rfl | rfl | rfl | rfl <;> first | exact sp9_ok | exact sp10_ok | exact sp17_ok | exact sp21_ok | exact sp22_ok | exact sp23_ok | exact sp24_ok | exact sp25_ok | exact sp26_ok | exact sp27_ok)) gamX_det rfl Try.func4 (c := codeOf Try.f4) rfl Try.ntmps4 (rs := [.tmp 6]) Try.results4 (by unfold enters; rw [Try.func4]; kernel_rfl) (Nat.le_of_ble_eq_true (by kernel_rfl)) (X := X) (c0 := 0) (Eq.mp (F4_eq g K X) h))
/-- quilt/quiltlaw49.ArqAcknowledged -/
def H7 : List (Nat × Hint) := [(10, ⟨[((2, []), none), ((5, []), none)], [(1, .leaf), (2, .pt 0 0), (5, .pt 1 0), (7, .leaf), (72, .leaf), (73, .leaf), (74, .leaf)], [.cells [.leaf, .leaf, .leaf, .leaf], .cells [.leaf, .leaf, .leaf, .leaf]], [.int .i64, .int .i64, .sl .i64, .int .i64, .int .i64, .int .i64, .int .i64, .sl .str, .sl .i64, .int .i64, .int .i64, .sl .str, .sl .i64]⟩)]
def J7 : List (Nat × Hint) := [(2, ⟨[((2, []), none)], [(1, .leaf), (2, .pt 0 0), (18, .leaf)], [.cells [.leaf, .leaf, .leaf, .leaf]], [.int .i64, .bool, .int .i64, .int .i64, .sl .str, .sl .i64]⟩), (8, ⟨[((2, []), none), ((5, []), none)], [(1, .leaf), (2, .pt 0 0), (5, .pt 1 0), (7, .leaf), (68, .leaf)], [.cells [.leaf, .leaf, .leaf, .leaf], .cells [.leaf, .leaf, .leaf, .leaf]], [.int .i64, .int .i64, .bool, .int .i64, .int .i64, .sl .str, .sl .i64, .int .i64, .int .i64, .sl .str, .sl .i64]⟩)]
abbrev S7 : List Sh := [.ag [.leaf, .leaf, .leaf, .leaf], .leaf]
abbrev L7 : List Lf := [.int .i64, .int .i64, .sl .str, .sl .i64, .int .i64]
def F7_B6 (K : Kn) (W6 : prodL [.int .i64, .int .i64, .sl .i64, .int .i64, .int .i64, .int .i64, .int .i64, .sl .str, .sl .i64, .int .i64, .int .i64, .sl .str, .sl .i64] → Prop) (number_5 : Int) (n_5 : Int) (t_5 : List Int) (t2_5 : Int) (t3_5 : Int) (s1_5 : Int) (s2_5 : Int) (s3_5 : List ByteArray) (s4_5 : List Int) (next1_5 : Int) (next2_5 : Int) (next3_5 : List ByteArray) (next4_5 : List Int) : Prop :=
  bif decide (t3_5 < t2_5) then (
    At t_5 t3_5 fun u7 =>
  bif decide (u7 < 0) then (
    K (.bool false) [])
  else (
    W6 (number_5, n_5, t_5, t2_5, IntKind.i64.wrap (t3_5 + 1), s1_5, s2_5, s3_5, s4_5, next1_5, next2_5, next3_5, next4_5, ())))
  else (
    sp22.pre (next1_5, next2_5, next3_5, next4_5, true, number_5, (⟨#[]⟩ : ByteArray), ()) ∧
  (0 : Int) ≤ n_5 ∧ n_5 ≤ (s3_5.length : Int) ∧
  sp27.pre (next3_5, s3_5.drop n_5.toNat, ()) ∧
  bif decide (next3_5 = (s3_5.drop n_5.toNat)) then (
    (0 : Int) ≤ n_5 ∧ n_5 ≤ (s4_5.length : Int) ∧
    sp28.pre (next4_5, s4_5.drop n_5.toNat, ()) ∧
    bif decide (next4_5 = (s4_5.drop n_5.toNat)) then (
      bif decide ((ackOf ⟨next1_5, next2_5, next3_5, next4_5⟩ ⟨true, number_5, (⟨#[]⟩ : ByteArray)⟩).2 = 0) then (
        sp17.pre ((ackOf ⟨next1_5, next2_5, next3_5, next4_5⟩ ⟨true, number_5, (⟨#[]⟩ : ByteArray)⟩).1.base, (ackOf ⟨next1_5, next2_5, next3_5, next4_5⟩ ⟨true, number_5, (⟨#[]⟩ : ByteArray)⟩).1.window, (ackOf ⟨next1_5, next2_5, next3_5, next4_5⟩ ⟨true, number_5, (⟨#[]⟩ : ByteArray)⟩).1.data, (ackOf ⟨next1_5, next2_5, next3_5, next4_5⟩ ⟨true, number_5, (⟨#[]⟩ : ByteArray)⟩).1.sent, next1_5, next2_5, next3_5, next4_5, ()) ∧
        bif decide ((((ackOf ⟨next1_5, next2_5, next3_5, next4_5⟩ ⟨true, number_5, (⟨#[]⟩ : ByteArray)⟩).1) : Snd) = ⟨next1_5, next2_5, next3_5, next4_5⟩) then (
          sp10.pre (()) ∧
          K (.bool true) [])
        else (
          K (.bool false) []))
      else (
        K (.bool false) []))
    else (
      K (.bool false) []))
  else (
    K (.bool false) []))
def F7_L6 (K : Kn) (g : prodL [.int .i64, .int .i64, .sl .i64, .int .i64, .int .i64, .int .i64, .int .i64, .sl .str, .sl .i64, .int .i64, .int .i64, .sl .str, .sl .i64]) : Prop :=
  LoopW (γ := prodL [.int .i64, .int .i64, .sl .i64, .int .i64, .int .i64, .int .i64, .int .i64, .sl .str, .sl .i64, .int .i64, .int .i64, .sl .str, .sl .i64]) (fun V y => F7_B6 K V y.1 y.2.1 y.2.2.1 y.2.2.2.1 y.2.2.2.2.1 y.2.2.2.2.2.1 y.2.2.2.2.2.2.1 y.2.2.2.2.2.2.2.1 y.2.2.2.2.2.2.2.2.1 y.2.2.2.2.2.2.2.2.2.1 y.2.2.2.2.2.2.2.2.2.2.1 y.2.2.2.2.2.2.2.2.2.2.2.1 y.2.2.2.2.2.2.2.2.2.2.2.2.1) g
def F7_J4 (K : Kn) (number_3 : Int) (n_3 : Int) (t_3 : Bool) (s1_3 : Int) (s2_3 : Int) (s3_3 : List ByteArray) (s4_3 : List Int) (next1_3 : Int) (next2_3 : Int) (next3_3 : List ByteArray) (next4_3 : List Int) : Prop :=
  bif t_3 then (
    K (.bool false) [])
  else (
    (0 : Int) ≤ 0 ∧ 0 ≤ n_3 ∧ n_3 ≤ (s4_3.length : Int) ∧
  F7_L6 K (number_3, n_3, (s4_3.take n_3.toNat).drop ((0 : Int).toNat), ((((s4_3.take n_3.toNat).drop ((0 : Int).toNat)).length : Nat) : Int), 0, s1_3, s2_3, s3_3, s4_3, next1_3, next2_3, next3_3, next4_3, ()))
def F7_J2 (K : Kn) (number_1 : Int) (t_1 : Bool) (s1_1 : Int) (s2_1 : Int) (s3_1 : List ByteArray) (s4_1 : List Int) : Prop :=
  bif t_1 then (
    sp10.pre (()) ∧
    K (.bool true) [])
  else (
    sp22.pre (s1_1, s2_1, s3_1, s4_1, true, number_1, (⟨#[]⟩ : ByteArray), ()) ∧
  bif !decide ((ackOf ⟨s1_1, s2_1, s3_1, s4_1⟩ ⟨true, number_1, (⟨#[]⟩ : ByteArray)⟩).2 = 0) then (
    bif decide ((ackOf ⟨s1_1, s2_1, s3_1, s4_1⟩ ⟨true, number_1, (⟨#[]⟩ : ByteArray)⟩).2 = 1) then (
      sp10.pre (()) ∧
      K (.bool true) [])
    else (
      bif decide ((ackOf ⟨s1_1, s2_1, s3_1, s4_1⟩ ⟨true, number_1, (⟨#[]⟩ : ByteArray)⟩).2 = 2) then (
        sp10.pre (()) ∧
        K (.bool true) [])
      else (
        K (.bool false) [])))
  else (
    bif decide ((s3_1.length : Int) < if IntKind.i64.wrap (number_1 - s1_1) > 0 then IntKind.i64.wrap (number_1 - s1_1) else 0) then (
    F7_J4 K number_1 (if IntKind.i64.wrap (number_1 - s1_1) > 0 then IntKind.i64.wrap (number_1 - s1_1) else 0) true s1_1 s2_1 s3_1 s4_1 ((ackOf ⟨s1_1, s2_1, s3_1, s4_1⟩ ⟨true, number_1, (⟨#[]⟩ : ByteArray)⟩).1.base) ((ackOf ⟨s1_1, s2_1, s3_1, s4_1⟩ ⟨true, number_1, (⟨#[]⟩ : ByteArray)⟩).1.window) ((ackOf ⟨s1_1, s2_1, s3_1, s4_1⟩ ⟨true, number_1, (⟨#[]⟩ : ByteArray)⟩).1.data) ((ackOf ⟨s1_1, s2_1, s3_1, s4_1⟩ ⟨true, number_1, (⟨#[]⟩ : ByteArray)⟩).1.sent))
  else (
    sp19.pre ((ackOf ⟨s1_1, s2_1, s3_1, s4_1⟩ ⟨true, number_1, (⟨#[]⟩ : ByteArray)⟩).1.base, (ackOf ⟨s1_1, s2_1, s3_1, s4_1⟩ ⟨true, number_1, (⟨#[]⟩ : ByteArray)⟩).1.window, (ackOf ⟨s1_1, s2_1, s3_1, s4_1⟩ ⟨true, number_1, (⟨#[]⟩ : ByteArray)⟩).1.data, (ackOf ⟨s1_1, s2_1, s3_1, s4_1⟩ ⟨true, number_1, (⟨#[]⟩ : ByteArray)⟩).1.sent, ()) ∧
    bif !decide (Snd.err ((ackOf ⟨s1_1, s2_1, s3_1, s4_1⟩ ⟨true, number_1, (⟨#[]⟩ : ByteArray)⟩).1) = 0) then (
      F7_J4 K number_1 (if IntKind.i64.wrap (number_1 - s1_1) > 0 then IntKind.i64.wrap (number_1 - s1_1) else 0) true s1_1 s2_1 s3_1 s4_1 ((ackOf ⟨s1_1, s2_1, s3_1, s4_1⟩ ⟨true, number_1, (⟨#[]⟩ : ByteArray)⟩).1.base) ((ackOf ⟨s1_1, s2_1, s3_1, s4_1⟩ ⟨true, number_1, (⟨#[]⟩ : ByteArray)⟩).1.window) ((ackOf ⟨s1_1, s2_1, s3_1, s4_1⟩ ⟨true, number_1, (⟨#[]⟩ : ByteArray)⟩).1.data) ((ackOf ⟨s1_1, s2_1, s3_1, s4_1⟩ ⟨true, number_1, (⟨#[]⟩ : ByteArray)⟩).1.sent))
    else (
      bif !decide ((ackOf ⟨s1_1, s2_1, s3_1, s4_1⟩ ⟨true, number_1, (⟨#[]⟩ : ByteArray)⟩).1.base = IntKind.i64.wrap (s1_1 + (if IntKind.i64.wrap (number_1 - s1_1) > 0 then IntKind.i64.wrap (number_1 - s1_1) else 0))) then (
        F7_J4 K number_1 (if IntKind.i64.wrap (number_1 - s1_1) > 0 then IntKind.i64.wrap (number_1 - s1_1) else 0) true s1_1 s2_1 s3_1 s4_1 ((ackOf ⟨s1_1, s2_1, s3_1, s4_1⟩ ⟨true, number_1, (⟨#[]⟩ : ByteArray)⟩).1.base) ((ackOf ⟨s1_1, s2_1, s3_1, s4_1⟩ ⟨true, number_1, (⟨#[]⟩ : ByteArray)⟩).1.window) ((ackOf ⟨s1_1, s2_1, s3_1, s4_1⟩ ⟨true, number_1, (⟨#[]⟩ : ByteArray)⟩).1.data) ((ackOf ⟨s1_1, s2_1, s3_1, s4_1⟩ ⟨true, number_1, (⟨#[]⟩ : ByteArray)⟩).1.sent))
      else (
        F7_J4 K number_1 (if IntKind.i64.wrap (number_1 - s1_1) > 0 then IntKind.i64.wrap (number_1 - s1_1) else 0) (!decide ((ackOf ⟨s1_1, s2_1, s3_1, s4_1⟩ ⟨true, number_1, (⟨#[]⟩ : ByteArray)⟩).1.window = s2_1)) s1_1 s2_1 s3_1 s4_1 ((ackOf ⟨s1_1, s2_1, s3_1, s4_1⟩ ⟨true, number_1, (⟨#[]⟩ : ByteArray)⟩).1.base) ((ackOf ⟨s1_1, s2_1, s3_1, s4_1⟩ ⟨true, number_1, (⟨#[]⟩ : ByteArray)⟩).1.window) ((ackOf ⟨s1_1, s2_1, s3_1, s4_1⟩ ⟨true, number_1, (⟨#[]⟩ : ByteArray)⟩).1.data) ((ackOf ⟨s1_1, s2_1, s3_1, s4_1⟩ ⟨true, number_1, (⟨#[]⟩ : ByteArray)⟩).1.sent))))))
def F7 (g : prodL L7) (K : Kn) : Prop :=
  sp9.pre (g.1, g.2.1, g.2.2.1, g.2.2.2.1, ()) ∧
  bif greatS g.2.2.1 g.2.2.2.1.length then (
    F7_J2 K g.2.2.2.2.1 true g.1 g.2.1 g.2.2.1 g.2.2.2.1)
  else (
    sp20.pre (g.1, g.2.1, g.2.2.1, g.2.2.2.1, ()) ∧
    F7_J2 K g.2.2.2.2.1 (!decide (Snd.err ⟨g.1, g.2.1, g.2.2.1, g.2.2.2.1⟩ = 0)) g.1 g.2.1 g.2.2.1 g.2.2.2.1)
theorem F7_eq (g : prodL L7) (K X : Kn) : F7 g K = dfun D (gamX [] [(9, true, sp9), (10, true, sp10), (17, true, sp17), (19, true, sp19), (20, true, sp20), (22, false, sp22), (27, true, sp27), (28, true, sp28)]) (isRaw []) H7 J7 116 [.tmp 4] (codeOf Try.f7) (argsT S7 L7 g) [] (settle0 K) X := by kernel_rfl
theorem F7_ok (g : prodL L7) (K X : Kn) (h : F7 g K) : FCalls Try.prog 7 (argsT S7 L7 g) [] K X :=
  FCalls.settle0 (dfun_sound (Γ := gamX [] [(9, true, sp9), (10, true, sp10), (17, true, sp17), (19, true, sp19), (20, true, sp20), (22, false, sp22), (27, true, sp27), (28, true, sp28)]) (mu := isRaw []) (H := H7) (J := J7) D_ok (gamX_ok (rs := []) (l := [(9, true, sp9), (10, true, sp10), (17, true, sp17), (19, true, sp19), (20, true, sp20), (22, false, sp22), (27, true, sp27), (28, true, sp28)]) (fun p hp => by cases hp) (by intro p hp; simp only [List.mem_cons, List.not_mem_nil, or_false] at hp; rcases hp with rfl | rfl | rfl | rfl | rfl | rfl | rfl | rfl <;> first | exact sp9_ok | exact sp10_ok | exact sp17_ok | exact sp19_ok | exact sp20_ok | exact sp22_ok | exact sp27_ok | exact sp28_ok)) gamX_det rfl Try.func7 (c := codeOf Try.f7) rfl Try.ntmps7 (rs := [.tmp 4]) Try.results7 (by unfold enters; rw [Try.func7]; kernel_rfl) (Nat.le_of_ble_eq_true (by kernel_rfl)) (X := X) (c0 := 0) (Eq.mp (F7_eq g K X) h))
end Go.Proofs.Ytofjpelbjehddaa
