/- What functions come to: printed by exf.py. -/
import Derived.Test.YtofjpelbjehddaaGA
namespace Go.Proofs.Ytofjpelbjehddaa
set_option linter.unusedVariables false
set_option linter.unusedSimpArgs false
set_option linter.unusedSectionVars false
open Go.RowKit
attribute [local irreducible] dfun dround
/-- quilt/quiltlaw49.ArqWindow -/
def H5 : List (Nat × Hint) := [(9, ⟨[((3, []), none), ((7, []), none), ((11, []), none)], [(1, .leaf), (2, .leaf), (3, .pt 0 0), (7, .pt 1 0), (8, .leaf), (11, .mp 2), (62, .leaf), (63, .leaf), (64, .leaf)], [.cells [.leaf, .leaf, .leaf, .leaf], .cells [.leaf, .leaf, .leaf, .leaf], .cells [.me .mib]], [.int .i64, .int .u8, .sl .frm, .sl .frm, .int .i64, .int .i64, .int .i64, .int .i64, .sl .str, .sl .i64, .int .i64, .int .i64, .sl .str, .sl .i64, .sl .mib]⟩), (18, ⟨[((11, []), none)], [(2, .leaf), (11, .mp 0), (131, .leaf), (132, .leaf), (133, .leaf)], [.cells [.me .mib]], [.int .u8, .sl .frm, .int .i64, .int .i64, .sl .mib]⟩)]
def J5 : List (Nat × Hint) := [(2, ⟨[((3, []), none)], [(1, .leaf), (2, .leaf), (3, .pt 0 0), (33, .leaf)], [.cells [.leaf, .leaf, .leaf, .leaf]], [.int .i64, .int .u8, .bool, .int .i64, .int .i64, .sl .str, .sl .i64]⟩), (6, ⟨[((3, []), none), ((7, []), none)], [(1, .leaf), (2, .leaf), (3, .pt 0 0), (7, .pt 1 0), (8, .leaf), (60, .leaf)], [.cells [.leaf, .leaf, .leaf, .leaf], .cells [.leaf, .leaf, .leaf, .leaf]], [.int .i64, .int .u8, .sl .frm, .bool, .int .i64, .int .i64, .sl .str, .sl .i64, .int .i64, .int .i64, .sl .str, .sl .i64]⟩), (13, ⟨[((3, []), none), ((7, []), none), ((11, []), none), ((13, []), none)], [(1, .leaf), (2, .leaf), (3, .pt 0 0), (7, .pt 1 0), (8, .leaf), (11, .mp 2), (13, .pt 3 0), (62, .leaf), (63, .leaf), (64, .leaf), (117, .leaf)], [.cells [.leaf, .leaf, .leaf, .leaf], .cells [.leaf, .leaf, .leaf, .leaf], .cells [.me .mib], .cells [.leaf, .leaf, .leaf]], [.int .i64, .int .u8, .sl .frm, .sl .frm, .int .i64, .int .i64, .bool, .int .i64, .int .i64, .sl .str, .sl .i64, .int .i64, .int .i64, .sl .str, .sl .i64, .sl .mib, .bool, .int .i64, .str]⟩), (21, ⟨[((11, []), none)], [(2, .leaf), (11, .mp 0), (131, .leaf), (132, .leaf), (133, .leaf), (144, .leaf)], [.cells [.me .mib]], [.int .u8, .sl .frm, .int .i64, .int .i64, .bool, .sl .mib]⟩)]
abbrev S5 : List Sh := [.ag [.leaf, .leaf, .leaf, .leaf], .leaf, .leaf]
abbrev L5 : List Lf := [.int .i64, .int .i64, .sl .str, .sl .i64, .int .i64, .int .u8]
def F5_J11 (K : Kn) (W6 : prodL [.int .i64, .int .u8, .sl .frm, .sl .frm, .int .i64, .int .i64, .int .i64, .int .i64, .sl .str, .sl .i64, .int .i64, .int .i64, .sl .str, .sl .i64, .sl .mib] → Prop) (clock_10 : Int) (ticks_10 : Int) (l_10 : List Frm) (t_10 : List Frm) (t2_10 : Int) (t3_10 : Int) (t4_10 : Bool) (s1_10 : Int) (s2_10 : Int) (s3_10 : List ByteArray) (s4_10 : List Int) (next1_10 : Int) (next2_10 : Int) (next3_10 : List ByteArray) (next4_10 : List Int) (sent_10 : List Mib) (f1_10 : Bool) (f2_10 : Int) (f3_10 : ByteArray) : Prop :=
  bif t4_10 then (
    K (.bool false) [])
  else (
    W6 (clock_10, ticks_10, l_10, t_10, t2_10, IntKind.i64.wrap (t3_10 + 1), s1_10, s2_10, s3_10, s4_10, next1_10, next2_10, next3_10, next4_10, mput .mib (.int .i64 f2_10) ((⟨f2_10, true⟩ : Mib) : Mib) sent_10, ()))
def F5_J16 (K : Kn) (W13 : prodL [.int .u8, .sl .frm, .int .i64, .int .i64, .sl .mib] → Prop) (ticks_15 : Int) (t_15 : List Frm) (t2_15 : Int) (t3_15 : Int) (t4_15 : Bool) (sent_15 : List Mib) : Prop :=
  bif t4_15 then (
    K (.bool false) [])
  else (
    W13 (ticks_15, t_15, t2_15, IntKind.i64.wrap (t3_15 + 1), sent_15, ()))
def F5_B13 (K : Kn) (W13 : prodL [.int .u8, .sl .frm, .int .i64, .int .i64, .sl .mib] → Prop) (ticks_12 : Int) (t_12 : List Frm) (t2_12 : Int) (t3_12 : Int) (sent_12 : List Mib) : Prop :=
  bif decide (t3_12 < t2_12) then (
    At t_12 t3_12 fun u14 =>
  bif (match mfind .mib (.int .i64 u14.number) sent_12 with | some x => x.v | none => false) then (
    F5_J16 K W13 ticks_12 t_12 t2_12 t3_12 (decide (ticks_12 < 4)) sent_12)
  else (
    F5_J16 K W13 ticks_12 t_12 t2_12 t3_12 false sent_12))
  else (
    sp10.pre (()) ∧
  K (.bool true) [])
def F5_L13 (K : Kn) (g : prodL [.int .u8, .sl .frm, .int .i64, .int .i64, .sl .mib]) : Prop :=
  LoopW (γ := prodL [.int .u8, .sl .frm, .int .i64, .int .i64, .sl .mib]) (fun V y => F5_B13 K V y.1 y.2.1 y.2.2.1 y.2.2.2.1 y.2.2.2.2.1) g
def F5_B6 (K : Kn) (W6 : prodL [.int .i64, .int .u8, .sl .frm, .sl .frm, .int .i64, .int .i64, .int .i64, .int .i64, .sl .str, .sl .i64, .int .i64, .int .i64, .sl .str, .sl .i64, .sl .mib] → Prop) (clock_5 : Int) (ticks_5 : Int) (l_5 : List Frm) (t_5 : List Frm) (t2_5 : Int) (t3_5 : Int) (s1_5 : Int) (s2_5 : Int) (s3_5 : List ByteArray) (s4_5 : List Int) (next1_5 : Int) (next2_5 : Int) (next3_5 : List ByteArray) (next4_5 : List Int) (sent_5 : List Mib) : Prop :=
  bif decide (t3_5 < t2_5) then (
    At t_5 t3_5 fun u7 =>
  bif decide (IntKind.i64.wrap (u7.number - s1_5) < 0) then (
    F5_J11 K W6 clock_5 ticks_5 l_5 t_5 t2_5 t3_5 true s1_5 s2_5 s3_5 s4_5 next1_5 next2_5 next3_5 next4_5 sent_5 u7.ack u7.number u7.data)
  else (
    bif decide (s2_5 ≤ IntKind.i64.wrap (u7.number - s1_5)) then (
      F5_J11 K W6 clock_5 ticks_5 l_5 t_5 t2_5 t3_5 true s1_5 s2_5 s3_5 s4_5 next1_5 next2_5 next3_5 next4_5 sent_5 u7.ack u7.number u7.data)
    else (
      bif decide ((s3_5.length : Int) ≤ IntKind.i64.wrap (u7.number - s1_5)) then (
        F5_J11 K W6 clock_5 ticks_5 l_5 t_5 t2_5 t3_5 true s1_5 s2_5 s3_5 s4_5 next1_5 next2_5 next3_5 next4_5 sent_5 u7.ack u7.number u7.data)
      else (
        At s3_5 (IntKind.i64.wrap (u7.number - s1_5)) fun u8 =>
        bif !decide (u7.data = u8) then (
          F5_J11 K W6 clock_5 ticks_5 l_5 t_5 t2_5 t3_5 true s1_5 s2_5 s3_5 s4_5 next1_5 next2_5 next3_5 next4_5 sent_5 u7.ack u7.number u7.data)
        else (
          bif u7.ack then (
            F5_J11 K W6 clock_5 ticks_5 l_5 t_5 t2_5 t3_5 true s1_5 s2_5 s3_5 s4_5 next1_5 next2_5 next3_5 next4_5 sent_5 u7.ack u7.number u7.data)
          else (
            bif decide (0 < t3_5) then (
              At l_5 (IntKind.i64.wrap (t3_5 - 1)) fun u9 =>
              F5_J11 K W6 clock_5 ticks_5 l_5 t_5 t2_5 t3_5 (decide (u7.number ≤ u9.number)) s1_5 s2_5 s3_5 s4_5 next1_5 next2_5 next3_5 next4_5 sent_5 u7.ack u7.number u7.data)
            else (
              F5_J11 K W6 clock_5 ticks_5 l_5 t_5 t2_5 t3_5 false s1_5 s2_5 s3_5 s4_5 next1_5 next2_5 next3_5 next4_5 sent_5 u7.ack u7.number u7.data)))))))
  else (
    sp15.pre (next1_5, next2_5, next3_5, next4_5, IntKind.i64.wrap (clock_5 + (IntKind.i64.wrap ticks_5)), ()) ∧
  F5_L13 K (ticks_5, (pollOf ⟨next1_5, next2_5, next3_5, next4_5⟩ (IntKind.i64.wrap (clock_5 + (IntKind.i64.wrap ticks_5)))).2, ((((pollOf ⟨next1_5, next2_5, next3_5, next4_5⟩ (IntKind.i64.wrap (clock_5 + (IntKind.i64.wrap ticks_5)))).2).length : Nat) : Int), 0, sent_5, ()))
def F5_L6 (K : Kn) (g : prodL [.int .i64, .int .u8, .sl .frm, .sl .frm, .int .i64, .int .i64, .int .i64, .int .i64, .sl .str, .sl .i64, .int .i64, .int .i64, .sl .str, .sl .i64, .sl .mib]) : Prop :=
  LoopW (γ := prodL [.int .i64, .int .u8, .sl .frm, .sl .frm, .int .i64, .int .i64, .int .i64, .int .i64, .sl .str, .sl .i64, .int .i64, .int .i64, .sl .str, .sl .i64, .sl .mib]) (fun V y => F5_B6 K V y.1 y.2.1 y.2.2.1 y.2.2.2.1 y.2.2.2.2.1 y.2.2.2.2.2.1 y.2.2.2.2.2.2.1 y.2.2.2.2.2.2.2.1 y.2.2.2.2.2.2.2.2.1 y.2.2.2.2.2.2.2.2.2.1 y.2.2.2.2.2.2.2.2.2.2.1 y.2.2.2.2.2.2.2.2.2.2.2.1 y.2.2.2.2.2.2.2.2.2.2.2.2.1 y.2.2.2.2.2.2.2.2.2.2.2.2.2.1 y.2.2.2.2.2.2.2.2.2.2.2.2.2.2.1) g
def F5_J4 (K : Kn) (clock_3 : Int) (ticks_3 : Int) (l_3 : List Frm) (t_3 : Bool) (s1_3 : Int) (s2_3 : Int) (s3_3 : List ByteArray) (s4_3 : List Int) (next1_3 : Int) (next2_3 : Int) (next3_3 : List ByteArray) (next4_3 : List Int) : Prop :=
  bif t_3 then (
    K (.bool false) [])
  else (
    F5_L6 K (clock_3, ticks_3, l_3, l_3, (l_3.length : Int), 0, s1_3, s2_3, s3_3, s4_3, next1_3, next2_3, next3_3, next4_3, [], ()))
def F5_J2 (K : Kn) (clock_1 : Int) (ticks_1 : Int) (t_1 : Bool) (s1_1 : Int) (s2_1 : Int) (s3_1 : List ByteArray) (s4_1 : List Int) : Prop :=
  bif t_1 then (
    sp10.pre (()) ∧
    K (.bool true) [])
  else (
    sp15.pre (s1_1, s2_1, s3_1, s4_1, clock_1, ()) ∧
  sp15.pre ((pollOf ⟨s1_1, s2_1, s3_1, s4_1⟩ clock_1).1.base, (pollOf ⟨s1_1, s2_1, s3_1, s4_1⟩ clock_1).1.window, (pollOf ⟨s1_1, s2_1, s3_1, s4_1⟩ clock_1).1.data, (pollOf ⟨s1_1, s2_1, s3_1, s4_1⟩ clock_1).1.sent, clock_1, ()) ∧
  sp19.pre ((pollOf ⟨s1_1, s2_1, s3_1, s4_1⟩ clock_1).1.base, (pollOf ⟨s1_1, s2_1, s3_1, s4_1⟩ clock_1).1.window, (pollOf ⟨s1_1, s2_1, s3_1, s4_1⟩ clock_1).1.data, (pollOf ⟨s1_1, s2_1, s3_1, s4_1⟩ clock_1).1.sent, ()) ∧
  bif !decide (Snd.err ((pollOf ⟨s1_1, s2_1, s3_1, s4_1⟩ clock_1).1) = 0) then (
    F5_J4 K clock_1 ticks_1 ((pollOf ⟨s1_1, s2_1, s3_1, s4_1⟩ clock_1).2) true s1_1 s2_1 s3_1 s4_1 ((pollOf ⟨s1_1, s2_1, s3_1, s4_1⟩ clock_1).1.base) ((pollOf ⟨s1_1, s2_1, s3_1, s4_1⟩ clock_1).1.window) ((pollOf ⟨s1_1, s2_1, s3_1, s4_1⟩ clock_1).1.data) ((pollOf ⟨s1_1, s2_1, s3_1, s4_1⟩ clock_1).1.sent))
  else (
    bif !decide (((((pollOf ((pollOf ⟨s1_1, s2_1, s3_1, s4_1⟩ clock_1).1) clock_1).2).length : Nat) : Int) = 0) then (
      F5_J4 K clock_1 ticks_1 ((pollOf ⟨s1_1, s2_1, s3_1, s4_1⟩ clock_1).2) true s1_1 s2_1 s3_1 s4_1 ((pollOf ⟨s1_1, s2_1, s3_1, s4_1⟩ clock_1).1.base) ((pollOf ⟨s1_1, s2_1, s3_1, s4_1⟩ clock_1).1.window) ((pollOf ⟨s1_1, s2_1, s3_1, s4_1⟩ clock_1).1.data) ((pollOf ⟨s1_1, s2_1, s3_1, s4_1⟩ clock_1).1.sent))
    else (
      sp17.pre ((pollOf ⟨s1_1, s2_1, s3_1, s4_1⟩ clock_1).1.base, (pollOf ⟨s1_1, s2_1, s3_1, s4_1⟩ clock_1).1.window, (pollOf ⟨s1_1, s2_1, s3_1, s4_1⟩ clock_1).1.data, (pollOf ⟨s1_1, s2_1, s3_1, s4_1⟩ clock_1).1.sent, (pollOf ((pollOf ⟨s1_1, s2_1, s3_1, s4_1⟩ clock_1).1) clock_1).1.base, (pollOf ((pollOf ⟨s1_1, s2_1, s3_1, s4_1⟩ clock_1).1) clock_1).1.window, (pollOf ((pollOf ⟨s1_1, s2_1, s3_1, s4_1⟩ clock_1).1) clock_1).1.data, (pollOf ((pollOf ⟨s1_1, s2_1, s3_1, s4_1⟩ clock_1).1) clock_1).1.sent, ()) ∧
      F5_J4 K clock_1 ticks_1 ((pollOf ⟨s1_1, s2_1, s3_1, s4_1⟩ clock_1).2) (!(decide ((((pollOf ⟨s1_1, s2_1, s3_1, s4_1⟩ clock_1).1) : Snd) = ((pollOf ((pollOf ⟨s1_1, s2_1, s3_1, s4_1⟩ clock_1).1) clock_1).1)))) s1_1 s2_1 s3_1 s4_1 ((pollOf ⟨s1_1, s2_1, s3_1, s4_1⟩ clock_1).1.base) ((pollOf ⟨s1_1, s2_1, s3_1, s4_1⟩ clock_1).1.window) ((pollOf ⟨s1_1, s2_1, s3_1, s4_1⟩ clock_1).1.data) ((pollOf ⟨s1_1, s2_1, s3_1, s4_1⟩ clock_1).1.sent))))
def F5 (g : prodL L5) (K : Kn) : Prop :=
  sp9.pre (g.1, g.2.1, g.2.2.1, g.2.2.2.1, ()) ∧
  bif greatS g.2.2.1 g.2.2.2.1.length then (
    F5_J2 K g.2.2.2.2.1 g.2.2.2.2.2.1 true g.1 g.2.1 g.2.2.1 g.2.2.2.1)
  else (
    sp20.pre (g.1, g.2.1, g.2.2.1, g.2.2.2.1, ()) ∧
    bif !decide (Snd.err ⟨g.1, g.2.1, g.2.2.1, g.2.2.2.1⟩ = 0) then (
      F5_J2 K g.2.2.2.2.1 g.2.2.2.2.2.1 true g.1 g.2.1 g.2.2.1 g.2.2.2.1)
    else (
      bif decide (g.2.2.2.2.1 < 0) then (
        F5_J2 K g.2.2.2.2.1 g.2.2.2.2.2.1 true g.1 g.2.1 g.2.2.1 g.2.2.2.1)
      else (
        F5_J2 K g.2.2.2.2.1 g.2.2.2.2.2.1 (decide (1099511627476 < g.2.2.2.2.1)) g.1 g.2.1 g.2.2.1 g.2.2.2.1)))
theorem F5_eq (g : prodL L5) (K X : Kn) : F5 g K = dfun D (gamX [] [(9, true, sp9), (10, true, sp10), (15, false, sp15), (17, true, sp17), (19, true, sp19), (20, true, sp20)]) (isRaw []) H5 J5 147 [.tmp 6] (codeOf Try.f5) (argsT S5 L5 g) [] (settle0 K) X := by kernel_rfl
theorem F5_ok (g : prodL L5) (K X : Kn) (h : F5 g K) : FCalls Try.prog 5 (argsT S5 L5 g) [] K X :=
  FCalls.settle0 (dfun_sound (Γ := gamX [] [(9, true, sp9), (10, true, sp10), (15, false, sp15), (17, true, sp17), (19, true, sp19), (20, true, sp20)]) (mu := isRaw []) (H := H5) (J := J5) D_ok (gamX_ok (rs := []) (l := [(9, true, sp9), (10, true, sp10), (15, false, sp15), (17, true, sp17), (19, true, sp19), (20, true, sp20)]) (fun p hp => by cases hp) (by intro p hp; simp only [List.mem_cons, List.not_mem_nil, or_false] at hp; rcases hp with rfl | rfl | rfl | rfl | rfl | rfl <;> first | exact sp9_ok | exact sp10_ok | exact sp15_ok | exact sp17_ok | exact sp19_ok | exact sp20_ok)) gamX_det rfl Try.func5 (c := codeOf Try.f5) rfl Try.ntmps5 (rs := [.tmp 6]) Try.results5 (by unfold enters; rw [Try.func5]; kernel_rfl) (Nat.le_of_ble_eq_true (by kernel_rfl)) (X := X) (c0 := 0) (Eq.mp (F5_eq g K X) h))
end Go.Proofs.Ytofjpelbjehddaa
