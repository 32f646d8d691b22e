/- What functions come to: printed by exf.py. -/
import Derived.Test.YtofjpelbjehddaaGA
namespace Go.Proofs.Ytofjpelbjehddaa
set_option linter.unusedVariables false
set_option linter.unusedSimpArgs false
open Go.RowKit
/-- quilt/quiltlaw49.ArqWhole -/
def H8 : List (Nat × Hint) := [(9, ⟨[((5, []), none), ((7, []), none), ((8, []), some .str), ((9, []), some .str), ((10, []), some .frm), ((11, []), some .frm)], [(5, .pt 0 0), (7, .pt 1 0), (8, .oa .str 2), (9, .oa .str 3), (10, .oa .frm 4), (11, .oa .frm 5), (12, .leaf), (45, .leaf), (46, .leaf), (47, .leaf)], [.cells [.leaf, .leaf, .leaf, .leaf], .cells [.leaf, .leaf, .leaf], .arr .str, .arr .str, .arr .frm, .arr .frm], [.int .i64, .sl .act, .int .i64, .int .i64, .int .i64, .int .i64, .sl .str, .sl .i64, .int .i64, .sl .boo, .sl .str, .sl .str, .sl .str, .sl .frm, .sl .frm]⟩)]
def J8 : List (Nat × Hint) := [(3, ⟨[((5, []), none)], [(1, .leaf), (5, .pt 0 0), (6, .leaf), (33, .leaf)], [.cells [.leaf, .leaf, .leaf, .leaf]], [.sl .act, .int .i64, .bool, .int .i64, .int .i64, .sl .str, .sl .i64]⟩), (22, ⟨[((5, []), none), ((7, []), none), ((8, []), none), ((9, []), none), ((10, []), none), ((11, []), none), ((14, []), none)], [(5, .pt 0 0), (7, .pt 1 0), (8, .oa .str 2), (9, .oa .str 3), (10, .oa .frm 4), (11, .oa .frm 5), (12, .leaf), (14, .pt 6 0), (15, .leaf), (45, .leaf), (46, .leaf), (47, .leaf), (92, .leaf)], [.cells [.leaf, .leaf, .leaf, .leaf], .cells [.leaf, .leaf, .leaf], .arr .str, .arr .str, .arr .frm, .arr .frm, .cells [.leaf, .leaf, .leaf]], [.int .i64, .int .i64, .sl .act, .int .i64, .int .i64, .bool, .int .i64, .int .i64, .sl .str, .sl .i64, .int .i64, .sl .boo, .sl .str, .sl .str, .sl .str, .sl .frm, .sl .frm, .int .i64, .str, .int .u8]⟩), (26, ⟨[((5, []), none), ((7, []), none), ((8, []), none), ((9, []), none), ((10, []), none), ((11, []), none), ((14, []), none)], [(5, .pt 0 0), (7, .pt 1 0), (8, .oa .str 2), (9, .oa .str 3), (10, .oa .frm 4), (11, .oa .frm 5), (12, .leaf), (14, .pt 6 0), (15, .leaf), (45, .leaf), (46, .leaf), (47, .leaf), (126, .leaf)], [.cells [.leaf, .leaf, .leaf, .leaf], .cells [.leaf, .leaf, .leaf], .arr .str, .arr .str, .arr .frm, .arr .frm, .cells [.leaf, .leaf, .leaf]], [.int .i64, .int .i64, .sl .act, .int .i64, .int .i64, .bool, .int .i64, .int .i64, .sl .str, .sl .i64, .int .i64, .sl .boo, .sl .str, .sl .str, .sl .str, .sl .frm, .sl .frm, .int .i64, .str, .int .u8]⟩), (27, ⟨[((5, []), none), ((7, []), none), ((8, []), none), ((9, []), none), ((10, []), none), ((11, []), none)], [(5, .pt 0 0), (7, .pt 1 0), (8, .oa .str 2), (9, .oa .str 3), (10, .oa .frm 4), (11, .oa .frm 5), (12, .leaf), (15, .leaf), (45, .leaf), (46, .leaf), (47, .leaf)], [.cells [.leaf, .leaf, .leaf, .leaf], .cells [.leaf, .leaf, .leaf], .arr .str, .arr .str, .arr .frm, .arr .frm], [.int .i64, .int .i64, .sl .act, .int .i64, .int .i64, .int .i64, .int .i64, .sl .str, .sl .i64, .int .i64, .sl .boo, .sl .str, .sl .str, .sl .str, .sl .frm, .sl .frm]⟩), (28, ⟨[((5, []), none), ((7, []), none), ((8, []), none), ((9, []), none), ((10, []), none), ((11, []), none)], [(5, .pt 0 0), (7, .pt 1 0), (8, .oa .str 2), (9, .oa .str 3), (10, .oa .frm 4), (11, .oa .frm 5), (12, .leaf), (45, .leaf), (46, .leaf), (47, .leaf), (185, .leaf)], [.cells [.leaf, .leaf, .leaf, .leaf], .cells [.leaf, .leaf, .leaf], .arr .str, .arr .str, .arr .frm, .arr .frm], [.int .i64, .sl .act, .int .i64, .int .i64, .bool, .int .i64, .int .i64, .sl .str, .sl .i64, .int .i64, .sl .boo, .sl .str, .sl .str, .sl .str, .sl .frm, .sl .frm]⟩)]
abbrev S8 : List Sh := [.leaf, .leaf]
abbrev L8 : List Lf := [.int .i64, .sl .act]
def F8_J37 (K : Kn) (W27 : prodL [.int .i64, .sl .act, .int .i64, .int .i64, .int .i64, .int .i64, .sl .str, .sl .i64, .int .i64, .sl .boo, .sl .str, .sl .str, .sl .str, .sl .frm, .sl .frm] → Prop) (clock_36 : Int) (t_36 : List Deed) (t2_36 : Int) (t3_36 : Int) (t4_36 : Bool) (s1_36 : Int) (s2_36 : Int) (s3_36 : List ByteArray) (s4_36 : List Int) (r1_36 : Int) (r2_36 : List Bool) (r3_36 : List ByteArray) (offered_36 : List ByteArray) (got_36 : List ByteArray) (frames_36 : List Frm) (acks_36 : List Frm) : Prop :=
  bif t4_36 then (
    K (.bool false) [])
  else (
    W27 (clock_36, t_36, t2_36, IntKind.i64.wrap (t3_36 + 1), s1_36, s2_36, s3_36, s4_36, r1_36, r2_36, r3_36, offered_36, got_36, frames_36, acks_36, ()))
def F8_J38 (K : Kn) (W27 : prodL [.int .i64, .sl .act, .int .i64, .int .i64, .int .i64, .int .i64, .sl .str, .sl .i64, .int .i64, .sl .boo, .sl .str, .sl .str, .sl .str, .sl .frm, .sl .frm] → Prop) (clock_35 : Int) (f_35 : Int) (t_35 : List Deed) (t2_35 : Int) (t3_35 : Int) (s1_35 : Int) (s2_35 : Int) (s3_35 : List ByteArray) (s4_35 : List Int) (r1_35 : Int) (r2_35 : List Bool) (r3_35 : List ByteArray) (offered_35 : List ByteArray) (got_35 : List ByteArray) (frames_35 : List Frm) (acks_35 : List Frm) : Prop :=
  bif !decide (f_35 = 0) then (
    F8_J37 K W27 clock_35 t_35 t2_35 t3_35 true s1_35 s2_35 s3_35 s4_35 r1_35 r2_35 r3_35 offered_35 got_35 frames_35 acks_35)
  else (
    sp19.pre (s1_35, s2_35, s3_35, s4_35, ()) ∧
    bif !decide (Snd.err ⟨s1_35, s2_35, s3_35, s4_35⟩ = 0) then (
      F8_J37 K W27 clock_35 t_35 t2_35 t3_35 true s1_35 s2_35 s3_35 s4_35 r1_35 r2_35 r3_35 offered_35 got_35 frames_35 acks_35)
    else (
      bif decide ((offered_35.length : Int) < (got_35.length : Int)) then (
        F8_J37 K W27 clock_35 t_35 t2_35 t3_35 true s1_35 s2_35 s3_35 s4_35 r1_35 r2_35 r3_35 offered_35 got_35 frames_35 acks_35)
      else (
        (0 : Int) ≤ 0 ∧ 0 ≤ (got_35.length : Int) ∧ (got_35.length : Int) ≤ (offered_35.length : Int) ∧
        sp27.pre (got_35, (offered_35.drop ((0 : Int).toNat)).take ((got_35.length : Int).toNat - (0 : Int).toNat), ()) ∧
        bif !(decide (got_35 = ((offered_35.drop ((0 : Int).toNat)).take ((got_35.length : Int).toNat - (0 : Int).toNat)))) then (
          F8_J37 K W27 clock_35 t_35 t2_35 t3_35 true s1_35 s2_35 s3_35 s4_35 r1_35 r2_35 r3_35 offered_35 got_35 frames_35 acks_35)
        else (
          bif decide ((got_35.length : Int) < s1_35) then (
            F8_J37 K W27 clock_35 t_35 t2_35 t3_35 true s1_35 s2_35 s3_35 s4_35 r1_35 r2_35 r3_35 offered_35 got_35 frames_35 acks_35)
          else (
            F8_J37 K W27 clock_35 t_35 t2_35 t3_35 (!decide (r1_35 = (got_35.length : Int))) s1_35 s2_35 s3_35 s4_35 r1_35 r2_35 r3_35 offered_35 got_35 frames_35 acks_35)))))
def F8_J33 (K : Kn) (W27 : prodL [.int .i64, .sl .act, .int .i64, .int .i64, .int .i64, .int .i64, .sl .str, .sl .i64, .int .i64, .sl .boo, .sl .str, .sl .str, .sl .str, .sl .frm, .sl .frm] → Prop) (clock_31 : Int) (f_31 : Int) (t_31 : List Deed) (t2_31 : Int) (t3_31 : Int) (t4_31 : Bool) (s1_31 : Int) (s2_31 : Int) (s3_31 : List ByteArray) (s4_31 : List Int) (r1_31 : Int) (r2_31 : List Bool) (r3_31 : List ByteArray) (offered_31 : List ByteArray) (got_31 : List ByteArray) (frames_31 : List Frm) (acks_31 : List Frm) (a1_31 : Int) (a2_31 : ByteArray) (a3_31 : Int) : Prop :=
  bif t4_31 then (
          ¬ (acks_31.length : Int) = (0 : Int) ∧
          0 ≤ Int.tmod (IntKind.i64.wrap a3_31) (acks_31.length : Int) ∧ (Int.tmod (IntKind.i64.wrap a3_31) (acks_31.length : Int)).toNat < acks_31.length ∧
          atI acks_31 ((Int.tmod (IntKind.i64.wrap a3_31) (acks_31.length : Int)).toNat) fun x32 =>
          sp22.pre (s1_31, s2_31, s3_31, s4_31, x32.ack, x32.number, x32.data, ()) ∧
          F8_J38 K W27 clock_31 ((ackOf ⟨s1_31, s2_31, s3_31, s4_31⟩ x32).2) t_31 t2_31 t3_31 ((ackOf ⟨s1_31, s2_31, s3_31, s4_31⟩ x32).1.base) ((ackOf ⟨s1_31, s2_31, s3_31, s4_31⟩ x32).1.window) ((ackOf ⟨s1_31, s2_31, s3_31, s4_31⟩ x32).1.data) ((ackOf ⟨s1_31, s2_31, s3_31, s4_31⟩ x32).1.sent) r1_31 r2_31 r3_31 offered_31 got_31 frames_31 acks_31)
        else (
          F8_J38 K W27 clock_31 f_31 t_31 t2_31 t3_31 s1_31 s2_31 s3_31 s4_31 r1_31 r2_31 r3_31 offered_31 got_31 frames_31 acks_31)
def F8_J34 (K : Kn) (W27 : prodL [.int .i64, .sl .act, .int .i64, .int .i64, .int .i64, .int .i64, .sl .str, .sl .i64, .int .i64, .sl .boo, .sl .str, .sl .str, .sl .str, .sl .frm, .sl .frm] → Prop) (clock_29 : Int) (f_29 : Int) (t_29 : List Deed) (t2_29 : Int) (t3_29 : Int) (t4_29 : Bool) (s1_29 : Int) (s2_29 : Int) (s3_29 : List ByteArray) (s4_29 : List Int) (r1_29 : Int) (r2_29 : List Bool) (r3_29 : List ByteArray) (offered_29 : List ByteArray) (got_29 : List ByteArray) (frames_29 : List Frm) (acks_29 : List Frm) (a1_29 : Int) (a2_29 : ByteArray) (a3_29 : Int) : Prop :=
  bif t4_29 then (
        ¬ (frames_29.length : Int) = (0 : Int) ∧
        0 ≤ Int.tmod (IntKind.i64.wrap a3_29) (frames_29.length : Int) ∧ (Int.tmod (IntKind.i64.wrap a3_29) (frames_29.length : Int)).toNat < frames_29.length ∧
        atI frames_29 ((Int.tmod (IntKind.i64.wrap a3_29) (frames_29.length : Int)).toNat) fun x30 =>
        sp24.pre (r1_29, r2_29, r3_29, x30.ack, x30.number, x30.data, ()) ∧
        Room (got_29.length + ((acceptOf ⟨r1_29, r2_29, r3_29⟩ x30).2.1).length) 16 (
        Room (acks_29.length + [(⟨((acceptOf ⟨r1_29, r2_29, r3_29⟩ x30).2.2.1.ack), ((acceptOf ⟨r1_29, r2_29, r3_29⟩ x30).2.2.1.number), ((acceptOf ⟨r1_29, r2_29, r3_29⟩ x30).2.2.1.data)⟩ : Frm)].length) 32 (
        F8_J38 K W27 clock_29 ((acceptOf ⟨r1_29, r2_29, r3_29⟩ x30).2.2.2) t_29 t2_29 t3_29 s1_29 s2_29 s3_29 s4_29 ((acceptOf ⟨r1_29, r2_29, r3_29⟩ x30).1.next) ((acceptOf ⟨r1_29, r2_29, r3_29⟩ x30).1.have_) ((acceptOf ⟨r1_29, r2_29, r3_29⟩ x30).1.data) offered_29 (got_29 ++ ((acceptOf ⟨r1_29, r2_29, r3_29⟩ x30).2.1)) frames_29 (acks_29 ++ [(⟨((acceptOf ⟨r1_29, r2_29, r3_29⟩ x30).2.2.1.ack), ((acceptOf ⟨r1_29, r2_29, r3_29⟩ x30).2.2.1.number), ((acceptOf ⟨r1_29, r2_29, r3_29⟩ x30).2.2.1.data)⟩ : Frm)]))))
      else (
        bif decide (a1_29 = 3) then (
          F8_J33 K W27 clock_29 f_29 t_29 t2_29 t3_29 (decide (0 < (acks_29.length : Int))) s1_29 s2_29 s3_29 s4_29 r1_29 r2_29 r3_29 offered_29 got_29 frames_29 acks_29 a1_29 a2_29 a3_29)
        else (
          F8_J33 K W27 clock_29 f_29 t_29 t2_29 t3_29 false s1_29 s2_29 s3_29 s4_29 r1_29 r2_29 r3_29 offered_29 got_29 frames_29 acks_29 a1_29 a2_29 a3_29))
def F8_B27 (K : Kn) (W27 : prodL [.int .i64, .sl .act, .int .i64, .int .i64, .int .i64, .int .i64, .sl .str, .sl .i64, .int .i64, .sl .boo, .sl .str, .sl .str, .sl .str, .sl .frm, .sl .frm] → Prop) (clock_26 : Int) (t_26 : List Deed) (t2_26 : Int) (t3_26 : Int) (s1_26 : Int) (s2_26 : Int) (s3_26 : List ByteArray) (s4_26 : List Int) (r1_26 : Int) (r2_26 : List Bool) (r3_26 : List ByteArray) (offered_26 : List ByteArray) (got_26 : List ByteArray) (frames_26 : List Frm) (acks_26 : List Frm) : Prop :=
  bif decide (t3_26 < t2_26) then (
    At t_26 t3_26 fun u28 =>
  bif decide (20 < (u28.data.size : Int)) then (
    sp10.pre (()) ∧
    K (.bool true) [])
  else (
    bif decide (u28.kind = 0) then (
    sp13.pre (s1_26, s2_26, s3_26, s4_26, u28.data, ()) ∧
    Room (offered_26.length + [u28.data].length) 16 (
    F8_J38 K W27 clock_26 ((offerOf ⟨s1_26, s2_26, s3_26, s4_26⟩ u28.data).2) t_26 t2_26 t3_26 ((offerOf ⟨s1_26, s2_26, s3_26, s4_26⟩ u28.data).1.base) ((offerOf ⟨s1_26, s2_26, s3_26, s4_26⟩ u28.data).1.window) ((offerOf ⟨s1_26, s2_26, s3_26, s4_26⟩ u28.data).1.data) ((offerOf ⟨s1_26, s2_26, s3_26, s4_26⟩ u28.data).1.sent) r1_26 r2_26 r3_26 (offered_26 ++ [u28.data]) got_26 frames_26 acks_26))
  else (
    bif decide (u28.kind = 1) then (
      ¬ 8 = (0 : Int) ∧
      sp15.pre (s1_26, s2_26, s3_26, s4_26, IntKind.i64.wrap (clock_26 + (Int.tmod (IntKind.i64.wrap u28.at_) 8)), ()) ∧
      Room (frames_26.length + ((pollOf ⟨s1_26, s2_26, s3_26, s4_26⟩ (IntKind.i64.wrap (clock_26 + (Int.tmod (IntKind.i64.wrap u28.at_) 8)))).2).length) 32 (
      F8_J38 K W27 (IntKind.i64.wrap (clock_26 + (Int.tmod (IntKind.i64.wrap u28.at_) 8))) 0 t_26 t2_26 t3_26 ((pollOf ⟨s1_26, s2_26, s3_26, s4_26⟩ (IntKind.i64.wrap (clock_26 + (Int.tmod (IntKind.i64.wrap u28.at_) 8)))).1.base) ((pollOf ⟨s1_26, s2_26, s3_26, s4_26⟩ (IntKind.i64.wrap (clock_26 + (Int.tmod (IntKind.i64.wrap u28.at_) 8)))).1.window) ((pollOf ⟨s1_26, s2_26, s3_26, s4_26⟩ (IntKind.i64.wrap (clock_26 + (Int.tmod (IntKind.i64.wrap u28.at_) 8)))).1.data) ((pollOf ⟨s1_26, s2_26, s3_26, s4_26⟩ (IntKind.i64.wrap (clock_26 + (Int.tmod (IntKind.i64.wrap u28.at_) 8)))).1.sent) r1_26 r2_26 r3_26 offered_26 got_26 (frames_26 ++ ((pollOf ⟨s1_26, s2_26, s3_26, s4_26⟩ (IntKind.i64.wrap (clock_26 + (Int.tmod (IntKind.i64.wrap u28.at_) 8)))).2)) acks_26))
    else (
      bif decide (u28.kind = 2) then (
        F8_J34 K W27 clock_26 0 t_26 t2_26 t3_26 (decide (0 < (frames_26.length : Int))) s1_26 s2_26 s3_26 s4_26 r1_26 r2_26 r3_26 offered_26 got_26 frames_26 acks_26 u28.kind u28.data u28.at_)
      else (
        F8_J34 K W27 clock_26 0 t_26 t2_26 t3_26 false s1_26 s2_26 s3_26 s4_26 r1_26 r2_26 r3_26 offered_26 got_26 frames_26 acks_26 u28.kind u28.data u28.at_)))))
  else (
    sp10.pre (()) ∧
  K (.bool true) [])
def F8_L27 (K : Kn) (g : prodL [.int .i64, .sl .act, .int .i64, .int .i64, .int .i64, .int .i64, .sl .str, .sl .i64, .int .i64, .sl .boo, .sl .str, .sl .str, .sl .str, .sl .frm, .sl .frm]) : Prop :=
  LoopW (γ := prodL [.int .i64, .sl .act, .int .i64, .int .i64, .int .i64, .int .i64, .sl .str, .sl .i64, .int .i64, .sl .boo, .sl .str, .sl .str, .sl .str, .sl .frm, .sl .frm]) (fun V y => F8_B27 K V y.1 y.2.1 y.2.2.1 y.2.2.2.1 y.2.2.2.2.1 y.2.2.2.2.2.1 y.2.2.2.2.2.2.1 y.2.2.2.2.2.2.2.1 y.2.2.2.2.2.2.2.2.1 y.2.2.2.2.2.2.2.2.2.1 y.2.2.2.2.2.2.2.2.2.2.1 y.2.2.2.2.2.2.2.2.2.2.2.1 y.2.2.2.2.2.2.2.2.2.2.2.2.1 y.2.2.2.2.2.2.2.2.2.2.2.2.2.1 y.2.2.2.2.2.2.2.2.2.2.2.2.2.2.1) g
def F8_J2 (K : Kn) (acts_1 : List Deed) (e_1 : Int) (t_1 : Bool) (s1_1 : Int) (s2_1 : Int) (s3_1 : List ByteArray) (s4_1 : List Int) : Prop :=
  bif t_1 then (
    bif decide (e_1 = 2) then (
      sp10.pre (()) ∧
      K (.bool true) [])
    else (
      bif decide (40 < (acts_1.length : Int)) then (
        sp10.pre (()) ∧
        K (.bool true) [])
      else (
        K (.bool false) [])))
  else (
    F8_L27 K (0, acts_1, (acts_1.length : Int), 0, s1_1, s2_1, s3_1, s4_1, 0, [], [], [], [], [], [], ()))
def F8 (g : prodL L8) (K : Kn) : Prop :=
  sp11.pre (g.1, ()) ∧
  bif !decide ((newOf g.1).2 = 0) then (
    F8_J2 K g.2.1 ((newOf g.1).2) true ((newOf g.1).1.base) ((newOf g.1).1.window) ((newOf g.1).1.data) ((newOf g.1).1.sent))
  else (
    F8_J2 K g.2.1 ((newOf g.1).2) (decide (40 < (g.2.1.length : Int))) ((newOf g.1).1.base) ((newOf g.1).1.window) ((newOf g.1).1.data) ((newOf g.1).1.sent))
theorem F8_eq (g : prodL L8) (K X : Kn) : F8 g K = dfun D (gamX [] [(10, true, sp10), (11, false, sp11), (13, false, sp13), (15, false, sp15), (19, true, sp19), (22, false, sp22), (24, false, sp24), (27, true, sp27)]) (isRaw []) H8 J8 188 [.tmp 4] (codeOf Try.f8) (argsT S8 L8 g) [] (settle0 K) X := by kernel_rfl
theorem F8_ok (g : prodL L8) (K X : Kn) (h : F8 g K) : FCalls Try.prog 8 (argsT S8 L8 g) [] K X :=
  FCalls.settle0 (dfun_sound (Γ := gamX [] [(10, true, sp10), (11, false, sp11), (13, false, sp13), (15, false, sp15), (19, true, sp19), (22, false, sp22), (24, false, sp24), (27, true, sp27)]) (mu := isRaw []) (H := H8) (J := J8) D_ok (gamX_ok (rs := []) (l := [(10, true, sp10), (11, false, sp11), (13, false, sp13), (15, false, sp15), (19, true, sp19), (22, false, sp22), (24, false, sp24), (27, true, sp27)]) (fun p hp => by cases hp) (by intro p hp; simp only [List.mem_cons, List.not_mem_nil, or_false] at hp; rcases hp with rfl | rfl | rfl | rfl | rfl | rfl | rfl | rfl <;> first | exact sp10_ok | exact sp11_ok | exact sp13_ok | exact sp15_ok | exact sp19_ok | exact sp22_ok | exact sp24_ok | exact sp27_ok)) gamX_det rfl Try.func8 (c := codeOf Try.f8) rfl Try.ntmps8 Try.results8 (by unfold enters; rw [Try.func8]; kernel_rfl) (Nat.le_of_ble_eq_true (by kernel_rfl)) (X := X) (c0 := 0) (by rw [F8_eq g K X] at h; exact h))
end Go.Proofs.Ytofjpelbjehddaa
