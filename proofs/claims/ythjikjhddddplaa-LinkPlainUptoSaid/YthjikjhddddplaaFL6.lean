/- What functions come to: printed by exf.py. -/
import Derived.Test.YthjikjhddddplaaGF
namespace Go.Proofs.Ythjikjhddddplaa
set_option linter.unusedVariables false
set_option linter.unusedSimpArgs false
open Go.RowKit
/-- quilt/quiltlaw46.LinkPlain -/
def H6 : List (Nat × Hint) := []
def J6 : List (Nat × Hint) := []
abbrev S6 : List Sh := [.leaf, .leaf]
abbrev L6 : List Lf := [.int .u32, .sl .pkt]
def F6 (g : prodL L6) (K : Kn) : Prop :=
  sp22.pre (g.2.1, ()) ∧
  bif !(shortB g.2.1) then (
    sp11.pre (()) ∧
    K (.bool true) [])
  else (
    sp23.pre (IntKind.i64.wrap g.1, [], [], g.2.1, ()) ∧
  bif !((sentOf ⟨(IntKind.i64.wrap g.1), [], []⟩ g.2.1).2) then (
    K (.bool false) [])
  else (
    sp19.pre ((sentOf ⟨(IntKind.i64.wrap g.1), [], []⟩ g.2.1).1.now, (sentOf ⟨(IntKind.i64.wrap g.1), [], []⟩ g.2.1).1.flights, (sentOf ⟨(IntKind.i64.wrap g.1), [], []⟩ g.2.1).1.fates, ()) ∧
  bif decide ((stepOf ⟨((sentOf ⟨(IntKind.i64.wrap g.1), [], []⟩ g.2.1).1.now), ((sentOf ⟨(IntKind.i64.wrap g.1), [], []⟩ g.2.1).1.flights), ((sentOf ⟨(IntKind.i64.wrap g.1), [], []⟩ g.2.1).1.fates)⟩).2.2 = 0) then (
    sp21.pre ((stepOf ⟨((sentOf ⟨(IntKind.i64.wrap g.1), [], []⟩ g.2.1).1.now), ((sentOf ⟨(IntKind.i64.wrap g.1), [], []⟩ g.2.1).1.flights), ((sentOf ⟨(IntKind.i64.wrap g.1), [], []⟩ g.2.1).1.fates)⟩).2.1, g.2.1, ()) ∧
    bif decide (((stepOf ⟨((sentOf ⟨(IntKind.i64.wrap g.1), [], []⟩ g.2.1).1.now), ((sentOf ⟨(IntKind.i64.wrap g.1), [], []⟩ g.2.1).1.flights), ((sentOf ⟨(IntKind.i64.wrap g.1), [], []⟩ g.2.1).1.fates)⟩).2.1) = g.2.1) then (
      sp17.pre ((stepOf ⟨((sentOf ⟨(IntKind.i64.wrap g.1), [], []⟩ g.2.1).1.now), ((sentOf ⟨(IntKind.i64.wrap g.1), [], []⟩ g.2.1).1.flights), ((sentOf ⟨(IntKind.i64.wrap g.1), [], []⟩ g.2.1).1.fates)⟩).1.now, (stepOf ⟨((sentOf ⟨(IntKind.i64.wrap g.1), [], []⟩ g.2.1).1.now), ((sentOf ⟨(IntKind.i64.wrap g.1), [], []⟩ g.2.1).1.flights), ((sentOf ⟨(IntKind.i64.wrap g.1), [], []⟩ g.2.1).1.fates)⟩).1.flights, (stepOf ⟨((sentOf ⟨(IntKind.i64.wrap g.1), [], []⟩ g.2.1).1.now), ((sentOf ⟨(IntKind.i64.wrap g.1), [], []⟩ g.2.1).1.flights), ((sentOf ⟨(IntKind.i64.wrap g.1), [], []⟩ g.2.1).1.fates)⟩).1.fates, ()) ∧
      bif decide ((((stepOf ⟨((sentOf ⟨(IntKind.i64.wrap g.1), [], []⟩ g.2.1).1.now), ((sentOf ⟨(IntKind.i64.wrap g.1), [], []⟩ g.2.1).1.flights), ((sentOf ⟨(IntKind.i64.wrap g.1), [], []⟩ g.2.1).1.fates)⟩).1.flights).length : Int) = 0) then (
        bif decide ((stepOf ⟨((sentOf ⟨(IntKind.i64.wrap g.1), [], []⟩ g.2.1).1.now), ((sentOf ⟨(IntKind.i64.wrap g.1), [], []⟩ g.2.1).1.flights), ((sentOf ⟨(IntKind.i64.wrap g.1), [], []⟩ g.2.1).1.fates)⟩).1.now = IntKind.i64.wrap ((IntKind.i64.wrap g.1) + 1)) then (
          sp11.pre (()) ∧
          K (.bool true) [])
        else (
          K (.bool false) []))
      else (
        K (.bool false) []))
    else (
      K (.bool false) []))
  else (
    K (.bool false) [])))
theorem F6_eq (g : prodL L6) (K X : Kn) : F6 g K = dfun D (gamX [] [(11, true, sp11), (17, true, sp17), (19, false, sp19), (21, true, sp21), (22, true, sp22), (23, false, sp23)]) (isRaw []) H6 J6 52 [.tmp 4] (codeOf Try.f6) (argsT S6 L6 g) [] (settle0 K) X := by kernel_rfl
theorem F6_ok (g : prodL L6) (K X : Kn) (h : F6 g K) : FCalls Try.prog 6 (argsT S6 L6 g) [] K X :=
  FCalls.settle0 (dfun_sound (Γ := gamX [] [(11, true, sp11), (17, true, sp17), (19, false, sp19), (21, true, sp21), (22, true, sp22), (23, false, sp23)]) (mu := isRaw []) (H := H6) (J := J6) D_ok (gamX_ok (rs := []) (l := [(11, true, sp11), (17, true, sp17), (19, false, sp19), (21, true, sp21), (22, true, sp22), (23, false, sp23)]) (fun p hp => by cases hp) (by intro p hp; simp only [List.mem_cons, List.not_mem_nil, or_false] at hp; rcases hp with rfl | rfl | rfl | rfl | rfl | rfl <;> first | exact sp11_ok | exact sp17_ok | exact sp19_ok | exact sp21_ok | exact sp22_ok | exact sp23_ok)) gamX_det rfl Try.func6 (c := codeOf Try.f6) rfl Try.ntmps6 Try.results6 (by unfold enters; rw [Try.func6]; kernel_rfl) (Nat.le_of_ble_eq_true (by kernel_rfl)) (X := X) (c0 := 0) (by rw [F6_eq g K X] at h; exact h))
/-- quilt/quiltlaw46.LinkNothingElse -/
def H7 : List (Nat × Hint) := [(8, ⟨[((5, []), none), ((7, []), some .pkt)], [(0, .leaf), (1, .leaf), (5, .pt 0 0), (7, .oa .pkt 1), (45, .leaf)], [.cells [.leaf, .leaf, .leaf], .arr .pkt], [.sl .pkt, .sl .i64, .int .i64, .int .i64, .sl .flt, .sl .i64, .sl .pkt]⟩), (17, ⟨[((5, []), none), ((7, []), none)], [(0, .leaf), (1, .leaf), (5, .pt 0 0), (7, .oa .pkt 1), (11, .leaf), (60, .leaf), (61, .leaf), (62, .leaf)], [.cells [.leaf, .leaf, .leaf], .arr .pkt], [.sl .pkt, .sl .i64, .int .i64, .sl .pkt, .int .i64, .int .i64, .int .i64, .sl .flt, .sl .i64, .sl .pkt]⟩), (21, ⟨[((5, []), none), ((7, []), none), ((13, []), none)], [(0, .leaf), (1, .leaf), (5, .pt 0 0), (7, .oa .pkt 1), (11, .leaf), (13, .pt 2 0), (14, .leaf), (60, .leaf), (61, .leaf), (62, .leaf), (66, .leaf), (67, .leaf), (68, .leaf)], [.cells [.leaf, .leaf, .leaf], .arr .pkt, .cells [.leaf, .leaf]], [.sl .pkt, .sl .i64, .int .i64, .int .i64, .sl .pkt, .int .i64, .int .i64, .sl .pkt, .int .i64, .int .i64, .int .i64, .sl .flt, .sl .i64, .sl .pkt, .int .i64, .str]⟩), (34, ⟨[((5, []), none), ((7, []), none)], [(0, .leaf), (5, .pt 0 0), (7, .oa .pkt 1), (11, .leaf), (106, .oa .pkt 1), (107, .leaf), (108, .leaf)], [.cells [.leaf, .leaf, .leaf], .arr .pkt], [.sl .pkt, .int .i64, .int .i64, .int .i64, .int .i64, .sl .flt, .sl .i64, .sl .pkt]⟩)]
def J7 : List (Nat × Hint) := [(2, ⟨[], [(0, .leaf), (1, .leaf), (33, .leaf)], [], [.sl .pkt, .sl .i64, .bool]⟩), (26, ⟨[((5, []), none), ((7, []), none), ((13, []), none), ((16, []), none)], [(0, .leaf), (1, .leaf), (5, .pt 0 0), (7, .oa .pkt 1), (11, .leaf), (13, .pt 2 0), (14, .leaf), (16, .pt 3 0), (17, .leaf), (60, .leaf), (61, .leaf), (62, .leaf), (66, .leaf), (67, .leaf), (68, .leaf)], [.cells [.leaf, .leaf, .leaf], .arr .pkt, .cells [.leaf, .leaf], .cells [.leaf, .leaf]], [.sl .pkt, .sl .i64, .int .i64, .int .i64, .int .i64, .sl .pkt, .int .i64, .int .i64, .sl .pkt, .int .i64, .int .i64, .int .i64, .sl .flt, .sl .i64, .sl .pkt, .int .i64, .str, .int .i64, .str]⟩), (28, ⟨[((5, []), none), ((7, []), none), ((13, []), none)], [(0, .leaf), (1, .leaf), (5, .pt 0 0), (7, .oa .pkt 1), (11, .leaf), (13, .pt 2 0), (14, .leaf), (60, .leaf), (61, .leaf), (62, .leaf), (66, .leaf), (67, .leaf), (68, .leaf)], [.cells [.leaf, .leaf, .leaf], .arr .pkt, .cells [.leaf, .leaf]], [.sl .pkt, .sl .i64, .int .i64, .int .i64, .sl .pkt, .int .i64, .int .i64, .sl .pkt, .int .i64, .int .i64, .int .i64, .sl .flt, .sl .i64, .sl .pkt, .int .i64, .str]⟩)]
abbrev S7 : List Sh := [.leaf, .leaf]
abbrev L7 : List Lf := [.sl .pkt, .sl .i64]
def F7_J17 (K : Kn) (W11 : prodL [.sl .pkt, .sl .i64, .int .i64, .int .i64, .sl .pkt, .int .i64, .int .i64, .sl .pkt, .int .i64, .int .i64, .int .i64, .sl .flt, .sl .i64, .sl .pkt, .int .i64, .str] → Prop) (ps_16 : List Pkt) (fates_16 : List Int) (n_16 : Int) (want_16 : Int) (t_16 : List Pkt) (t2_16 : Int) (t3_16 : Int) (t4_16 : List Pkt) (t5_16 : Int) (t6_16 : Int) (l1_16 : Int) (l2_16 : List Flt) (l3_16 : List Int) (come_16 : List Pkt) (p1_16 : Int) (p2_16 : ByteArray) : Prop :=
  W11 (ps_16, fates_16, n_16, want_16, t_16, t2_16, t3_16, t4_16, t5_16, IntKind.i64.wrap (t6_16 + 1), l1_16, l2_16, l3_16, come_16, p1_16, p2_16, ())
def F7_J15 (K : Kn) (W11 : prodL [.sl .pkt, .sl .i64, .int .i64, .int .i64, .sl .pkt, .int .i64, .int .i64, .sl .pkt, .int .i64, .int .i64, .int .i64, .sl .flt, .sl .i64, .sl .pkt, .int .i64, .str] → Prop) (ps_14 : List Pkt) (fates_14 : List Int) (n_14 : Int) (want_14 : Int) (f_14 : Int) (t_14 : List Pkt) (t2_14 : Int) (t3_14 : Int) (t4_14 : List Pkt) (t5_14 : Int) (t6_14 : Int) (l1_14 : Int) (l2_14 : List Flt) (l3_14 : List Int) (come_14 : List Pkt) (p1_14 : Int) (p2_14 : ByteArray) (x1_14 : Int) (x2_14 : ByteArray) : Prop :=
  bif decide (x1_14 = p1_14) && (decide (x2_14 = p2_14) && (true)) then (
    sp24.pre (f_14, ()) ∧
    F7_J17 K W11 ps_14 fates_14 n_14 (IntKind.i64.wrap (want_14 + (((delaysOf f_14).length : Nat) : Int))) t_14 t2_14 t3_14 t4_14 t5_14 t6_14 l1_14 l2_14 l3_14 come_14 p1_14 p2_14)
  else (
    F7_J17 K W11 ps_14 fates_14 n_14 want_14 t_14 t2_14 t3_14 t4_14 t5_14 t6_14 l1_14 l2_14 l3_14 come_14 p1_14 p2_14)
def F7_B11 (K : Kn) (W8 : prodL [.sl .pkt, .sl .i64, .int .i64, .sl .pkt, .int .i64, .int .i64, .int .i64, .sl .flt, .sl .i64, .sl .pkt] → Prop) (W11 : prodL [.sl .pkt, .sl .i64, .int .i64, .int .i64, .sl .pkt, .int .i64, .int .i64, .sl .pkt, .int .i64, .int .i64, .int .i64, .sl .flt, .sl .i64, .sl .pkt, .int .i64, .str] → Prop) (ps_10 : List Pkt) (fates_10 : List Int) (n_10 : Int) (want_10 : Int) (t_10 : List Pkt) (t2_10 : Int) (t3_10 : Int) (t4_10 : List Pkt) (t5_10 : Int) (t6_10 : Int) (l1_10 : Int) (l2_10 : List Flt) (l3_10 : List Int) (come_10 : List Pkt) (p1_10 : Int) (p2_10 : ByteArray) : Prop :=
  bif decide (t6_10 < t5_10) then (
    At t4_10 t6_10 fun u12 =>
  bif decide (t6_10 < (fates_10.length : Int)) then (
    At fates_10 t6_10 fun u13 =>
    F7_J15 K W11 ps_10 fates_10 n_10 want_10 u13 t_10 t2_10 t3_10 t4_10 t5_10 t6_10 l1_10 l2_10 l3_10 come_10 p1_10 p2_10 u12.to u12.data)
  else (
    F7_J15 K W11 ps_10 fates_10 n_10 want_10 1 t_10 t2_10 t3_10 t4_10 t5_10 t6_10 l1_10 l2_10 l3_10 come_10 p1_10 p2_10 u12.to u12.data))
  else (
    sp25.pre (come_10, p1_10, p2_10, ()) ∧
  bif !decide (((List.count (⟨p1_10, p2_10⟩ : Pkt) come_10 : Nat) : Int) = want_10) then (
    K (.bool false) [])
  else (
    sp25.pre (come_10, p1_10, p2_10, ()) ∧
  sp25.pre (ps_10, p1_10, p2_10, ()) ∧
  ¬ (if ((List.count (⟨p1_10, p2_10⟩ : Pkt) ps_10 : Nat) : Int) > 1 then ((List.count (⟨p1_10, p2_10⟩ : Pkt) ps_10 : Nat) : Int) else 1) = (0 : Int) ∧
  W8 (ps_10, fates_10, IntKind.i64.wrap (n_10 + (IntKind.i64.wrap (Int.tdiv ((List.count (⟨p1_10, p2_10⟩ : Pkt) come_10 : Nat) : Int) (if ((List.count (⟨p1_10, p2_10⟩ : Pkt) ps_10 : Nat) : Int) > 1 then ((List.count (⟨p1_10, p2_10⟩ : Pkt) ps_10 : Nat) : Int) else 1)))), t_10, t2_10, IntKind.i64.wrap (t3_10 + 1), l1_10, l2_10, l3_10, come_10, ())))
def F7_B19 (K : Kn) (W19 : prodL [.sl .pkt, .int .i64, .int .i64, .int .i64, .int .i64, .sl .flt, .sl .i64, .sl .pkt] → Prop) (ps_18 : List Pkt) (n_18 : Int) (t_18 : Int) (t2_18 : Int) (l1_18 : Int) (l2_18 : List Flt) (l3_18 : List Int) (come_18 : List Pkt) : Prop :=
  bif decide (t2_18 < t_18) then (
    0 ≤ t2_18 ∧ t2_18.toNat < come_18.length ∧
  atI come_18 t2_18.toNat fun x20 =>
  sp25.pre (ps_18, x20.to, x20.data, ()) ∧
  bif decide (((List.count (⟨x20.to, x20.data⟩ : Pkt) ps_18 : Nat) : Int) = 0) then (
    K (.bool false) [])
  else (
    W19 (ps_18, n_18, t_18, IntKind.i64.wrap (t2_18 + 1), l1_18, l2_18, l3_18, come_18, ())))
  else (
    bif decide (n_18 ≤ (come_18.length : Int)) then (
    sp17.pre (l1_18, l2_18, l3_18, ()) ∧
    bif decide ((l2_18.length : Int) = 0) then (
      sp11.pre (()) ∧
      K (.bool true) [])
    else (
      K (.bool false) []))
  else (
    K (.bool false) []))
def F7_B8 (K : Kn) (W8 : prodL [.sl .pkt, .sl .i64, .int .i64, .sl .pkt, .int .i64, .int .i64, .int .i64, .sl .flt, .sl .i64, .sl .pkt] → Prop) (ps_7 : List Pkt) (fates_7 : List Int) (n_7 : Int) (t_7 : List Pkt) (t2_7 : Int) (t3_7 : Int) (l1_7 : Int) (l2_7 : List Flt) (l3_7 : List Int) (come_7 : List Pkt) : Prop :=
  bif decide (t3_7 < t2_7) then (
    At t_7 t3_7 fun u9 =>
  LoopW (γ := prodL [.sl .pkt, .sl .i64, .int .i64, .int .i64, .sl .pkt, .int .i64, .int .i64, .sl .pkt, .int .i64, .int .i64, .int .i64, .sl .flt, .sl .i64, .sl .pkt, .int .i64, .str]) (fun V y => F7_B11 K W8 V y.1 y.2.1 y.2.2.1 y.2.2.2.1 y.2.2.2.2.1 y.2.2.2.2.2.1 y.2.2.2.2.2.2.1 y.2.2.2.2.2.2.2.1 y.2.2.2.2.2.2.2.2.1 y.2.2.2.2.2.2.2.2.2.1 y.2.2.2.2.2.2.2.2.2.2.1 y.2.2.2.2.2.2.2.2.2.2.2.1 y.2.2.2.2.2.2.2.2.2.2.2.2.1 y.2.2.2.2.2.2.2.2.2.2.2.2.2.1 y.2.2.2.2.2.2.2.2.2.2.2.2.2.2.1 y.2.2.2.2.2.2.2.2.2.2.2.2.2.2.2.1) (ps_7, fates_7, n_7, 0, t_7, t2_7, t3_7, ps_7, (ps_7.length : Int), 0, l1_7, l2_7, l3_7, come_7, u9.to, u9.data, ()))
  else (
    LoopW (γ := prodL [.sl .pkt, .int .i64, .int .i64, .int .i64, .int .i64, .sl .flt, .sl .i64, .sl .pkt]) (fun V y => F7_B19 K V y.1 y.2.1 y.2.2.1 y.2.2.2.1 y.2.2.2.2.1 y.2.2.2.2.2.1 y.2.2.2.2.2.2.1 y.2.2.2.2.2.2.2.1) (ps_7, n_7, (come_7.length : Int), 0, l1_7, l2_7, l3_7, come_7, ()))
def F7_B6 (K : Kn) (W6 : prodL [.sl .pkt, .sl .i64, .int .i64, .int .i64, .sl .flt, .sl .i64, .sl .pkt] → Prop) (ps_5 : List Pkt) (fates_5 : List Int) (t_5 : Int) (l1_5 : Int) (l2_5 : List Flt) (l3_5 : List Int) (come_5 : List Pkt) : Prop :=
  bif decide (t_5 < 9) then (
    sp19.pre (l1_5, l2_5, l3_5, ()) ∧
  bif !decide ((stepOf ⟨l1_5, l2_5, l3_5⟩).2.2 = 0) then (
    K (.bool false) [])
  else (
    Room (come_5.length + ((stepOf ⟨l1_5, l2_5, l3_5⟩).2.1).length) 24 (
  W6 (ps_5, fates_5, IntKind.i64.wrap (t_5 + 1), (stepOf ⟨l1_5, l2_5, l3_5⟩).1.now, (stepOf ⟨l1_5, l2_5, l3_5⟩).1.flights, (stepOf ⟨l1_5, l2_5, l3_5⟩).1.fates, come_5 ++ ((stepOf ⟨l1_5, l2_5, l3_5⟩).2.1), ()))))
  else (
    LoopW (γ := prodL [.sl .pkt, .sl .i64, .int .i64, .sl .pkt, .int .i64, .int .i64, .int .i64, .sl .flt, .sl .i64, .sl .pkt]) (fun V y => F7_B8 K V y.1 y.2.1 y.2.2.1 y.2.2.2.1 y.2.2.2.2.1 y.2.2.2.2.2.1 y.2.2.2.2.2.2.1 y.2.2.2.2.2.2.2.1 y.2.2.2.2.2.2.2.2.1 y.2.2.2.2.2.2.2.2.2.1) (ps_5, fates_5, 0, ps_5, (ps_5.length : Int), 0, l1_5, l2_5, l3_5, come_5, ()))
def F7_J2 (K : Kn) (ps_1 : List Pkt) (fates_1 : List Int) (t_1 : Bool) : Prop :=
  bif t_1 then (
    sp11.pre (()) ∧
    K (.bool true) [])
  else (
    sp23.pre (0, [], fates_1, ps_1, ()) ∧
  bif !((sentOf ⟨0, [], fates_1⟩ ps_1).2) then (
    K (.bool false) [])
  else (
    LoopW (γ := prodL [.sl .pkt, .sl .i64, .int .i64, .int .i64, .sl .flt, .sl .i64, .sl .pkt]) (fun V y => F7_B6 K V y.1 y.2.1 y.2.2.1 y.2.2.2.1 y.2.2.2.2.1 y.2.2.2.2.2.1 y.2.2.2.2.2.2.1) (ps_1, fates_1, 0, (sentOf ⟨0, [], fates_1⟩ ps_1).1.now, (sentOf ⟨0, [], fates_1⟩ ps_1).1.flights, (sentOf ⟨0, [], fates_1⟩ ps_1).1.fates, [], ())))
def F7 (g : prodL L7) (K : Kn) : Prop :=
  sp22.pre (g.1, ()) ∧
  bif !(shortB g.1) then (
    F7_J2 K g.1 g.2.1 true)
  else (
    bif decide (20 < (g.2.1.length : Int)) then (
      F7_J2 K g.1 g.2.1 true)
    else (
      sp14.pre (0, [], g.2.1, ()) ∧
      F7_J2 K g.1 g.2.1 (!decide (Lnk.err ⟨0, [], g.2.1⟩ = 0))))
theorem F7_eq (g : prodL L7) (K X : Kn) : F7 g K = dfun D (gamX [] [(11, true, sp11), (14, true, sp14), (17, true, sp17), (19, false, sp19), (22, true, sp22), (23, false, sp23), (24, false, sp24), (25, true, sp25)]) (isRaw []) H7 J7 128 [.tmp 4] (codeOf Try.f7) (argsT S7 L7 g) [] (settle0 K) X := by kernel_rfl
theorem F7_ok (g : prodL L7) (K X : Kn) (h : F7 g K) : FCalls Try.prog 7 (argsT S7 L7 g) [] K X :=
  FCalls.settle0 (dfun_sound (Γ := gamX [] [(11, true, sp11), (14, true, sp14), (17, true, sp17), (19, false, sp19), (22, true, sp22), (23, false, sp23), (24, false, sp24), (25, true, sp25)]) (mu := isRaw []) (H := H7) (J := J7) D_ok (gamX_ok (rs := []) (l := [(11, true, sp11), (14, true, sp14), (17, true, sp17), (19, false, sp19), (22, true, sp22), (23, false, sp23), (24, false, sp24), (25, true, sp25)]) (fun p hp => by cases hp) (by intro p hp; simp only [List.mem_cons, List.not_mem_nil, or_false] at hp; rcases hp with rfl | rfl | rfl | rfl | rfl | rfl | rfl | rfl <;> first | exact sp11_ok | exact sp14_ok | exact sp17_ok | exact sp19_ok | exact sp22_ok | exact sp23_ok | exact sp24_ok | exact sp25_ok)) gamX_det rfl Try.func7 (c := codeOf Try.f7) rfl Try.ntmps7 Try.results7 (by unfold enters; rw [Try.func7]; kernel_rfl) (Nat.le_of_ble_eq_true (by kernel_rfl)) (X := X) (c0 := 0) (by rw [F7_eq g K X] at h; exact h))
/-- quilt/quiltlaw46.LinkDelay -/
def H8 : List (Nat × Hint) := [(8, ⟨[((3, []), none), ((7, []), none)], [(3, .pt 0 0), (7, .pt 1 0), (9, .leaf), (10, .leaf)], [.cells [.leaf, .leaf], .cells [.leaf, .leaf, .leaf]], [.sl .i64, .int .i64, .int .i64, .str, .int .i64, .sl .flt, .sl .i64]⟩), (13, ⟨[((3, []), none), ((7, []), none), ((11, []), none), ((14, []), some .pkt)], [(3, .pt 0 0), (7, .pt 1 0), (9, .leaf), (10, .leaf), (11, .pt 2 0), (12, .leaf), (13, .leaf), (14, .oa .pkt 3), (51, .leaf), (52, .leaf), (53, .leaf)], [.cells [.leaf, .leaf], .cells [.leaf, .leaf, .leaf], .cells [.leaf, .leaf, .leaf], .arr .pkt], [.sl .i64, .int .i64, .sl .pkt, .int .i64, .sl .i64, .int .i64, .int .i64, .int .i64, .str, .int .i64, .sl .flt, .sl .i64, .int .i64, .sl .flt, .sl .i64, .sl .pkt]⟩)]
def J8 : List (Nat × Hint) := [(2, ⟨[((3, []), none)], [(1, .leaf), (2, .leaf), (3, .pt 0 0), (24, .leaf)], [.cells [.leaf, .leaf]], [.int .i64, .int .u32, .bool, .int .i64, .str]⟩), (17, ⟨[((3, []), none), ((7, []), none), ((11, []), none), ((14, []), none)], [(3, .pt 0 0), (7, .pt 1 0), (9, .leaf), (10, .leaf), (11, .pt 2 0), (12, .leaf), (13, .leaf), (14, .oa .pkt 3), (51, .leaf), (52, .leaf), (53, .leaf)], [.cells [.leaf, .leaf], .cells [.leaf, .leaf, .leaf], .cells [.leaf, .leaf, .leaf], .arr .pkt], [.sl .i64, .int .i64, .sl .pkt, .int .i64, .sl .i64, .int .i64, .int .i64, .int .i64, .str, .int .i64, .sl .flt, .sl .i64, .int .i64, .sl .flt, .sl .i64, .sl .pkt]⟩), (19, ⟨[((3, []), none), ((7, []), none), ((11, []), none)], [(3, .pt 0 0), (7, .pt 1 0), (9, .leaf), (10, .leaf), (11, .pt 2 0), (72, .leaf)], [.cells [.leaf, .leaf], .cells [.leaf, .leaf, .leaf], .cells [.leaf, .leaf, .leaf]], [.sl .i64, .int .i64, .bool, .int .i64, .str, .int .i64, .sl .flt, .sl .i64, .int .i64, .sl .flt, .sl .i64]⟩)]
abbrev S8 : List Sh := [.ag [.leaf, .leaf], .leaf, .leaf]
abbrev L8 : List Lf := [.int .i64, .str, .int .i64, .int .u32]
def F8_J14 (K : Kn) (W11 : prodL [.sl .i64, .int .i64, .sl .pkt, .int .i64, .sl .i64, .int .i64, .int .i64, .int .i64, .str, .int .i64, .sl .flt, .sl .i64, .int .i64, .sl .flt, .sl .i64, .sl .pkt] → Prop) (d_13 : List Int) (tick_13 : Int) (q_13 : List Pkt) (f_13 : Int) (t_13 : List Int) (t2_13 : Int) (t3_13 : Int) (p1_13 : Int) (p2_13 : ByteArray) (l1_13 : Int) (l2_13 : List Flt) (l3_13 : List Int) (m1_13 : Int) (m2_13 : List Flt) (m3_13 : List Int) (want_13 : List Pkt) : Prop :=
  W11 (d_13, tick_13, q_13, f_13, t_13, t2_13, IntKind.i64.wrap (t3_13 + 1), p1_13, p2_13, l1_13, l2_13, l3_13, m1_13, m2_13, m3_13, want_13, ())
def F8_J16 (K : Kn) (W4 : prodL [.sl .i64, .int .i64, .int .i64, .str, .int .i64, .sl .flt, .sl .i64] → Prop) (d_15 : List Int) (tick_15 : Int) (t_15 : Bool) (p1_15 : Int) (p2_15 : ByteArray) (l1_15 : Int) (l2_15 : List Flt) (l3_15 : List Int) (m1_15 : Int) (m2_15 : List Flt) (m3_15 : List Int) : Prop :=
  bif t_15 then (
    K (.bool false) [])
  else (
    W4 (d_15, IntKind.i64.wrap (tick_15 + 1), p1_15, p2_15, m1_15, m2_15, m3_15, ()))
def F8_B11 (K : Kn) (W4 : prodL [.sl .i64, .int .i64, .int .i64, .str, .int .i64, .sl .flt, .sl .i64] → Prop) (W11 : prodL [.sl .i64, .int .i64, .sl .pkt, .int .i64, .sl .i64, .int .i64, .int .i64, .int .i64, .str, .int .i64, .sl .flt, .sl .i64, .int .i64, .sl .flt, .sl .i64, .sl .pkt] → Prop) (d_10 : List Int) (tick_10 : Int) (q_10 : List Pkt) (f_10 : Int) (t_10 : List Int) (t2_10 : Int) (t3_10 : Int) (p1_10 : Int) (p2_10 : ByteArray) (l1_10 : Int) (l2_10 : List Flt) (l3_10 : List Int) (m1_10 : Int) (m2_10 : List Flt) (m3_10 : List Int) (want_10 : List Pkt) : Prop :=
  bif decide (t3_10 < t2_10) then (
    At t_10 t3_10 fun u12 =>
  bif decide (u12 = tick_10) then (
    Room (want_10.length + [(⟨p1_10, p2_10⟩ : Pkt)].length) 24 (
    F8_J14 K W11 d_10 tick_10 q_10 f_10 t_10 t2_10 t3_10 p1_10 p2_10 l1_10 l2_10 l3_10 m1_10 m2_10 m3_10 (want_10 ++ [(⟨p1_10, p2_10⟩ : Pkt)])))
  else (
    F8_J14 K W11 d_10 tick_10 q_10 f_10 t_10 t2_10 t3_10 p1_10 p2_10 l1_10 l2_10 l3_10 m1_10 m2_10 m3_10 want_10))
  else (
    bif !decide (f_10 = 0) then (
    F8_J16 K W4 d_10 tick_10 true p1_10 p2_10 l1_10 l2_10 l3_10 m1_10 m2_10 m3_10)
  else (
    sp21.pre (q_10, want_10, ()) ∧
    F8_J16 K W4 d_10 tick_10 (!(decide (q_10 = want_10))) p1_10 p2_10 l1_10 l2_10 l3_10 m1_10 m2_10 m3_10))
def F8_B4 (K : Kn) (W4 : prodL [.sl .i64, .int .i64, .int .i64, .str, .int .i64, .sl .flt, .sl .i64] → Prop) (d_3 : List Int) (tick_3 : Int) (p1_3 : Int) (p2_3 : ByteArray) (l1_3 : Int) (l2_3 : List Flt) (l3_3 : List Int) : Prop :=
  bif decide (tick_3 ≤ 10) then (
    sp19.pre (l1_3, l2_3, l3_3, ()) ∧
  LoopW (γ := prodL [.sl .i64, .int .i64, .sl .pkt, .int .i64, .sl .i64, .int .i64, .int .i64, .int .i64, .str, .int .i64, .sl .flt, .sl .i64, .int .i64, .sl .flt, .sl .i64, .sl .pkt]) (fun V y => F8_B11 K W4 V y.1 y.2.1 y.2.2.1 y.2.2.2.1 y.2.2.2.2.1 y.2.2.2.2.2.1 y.2.2.2.2.2.2.1 y.2.2.2.2.2.2.2.1 y.2.2.2.2.2.2.2.2.1 y.2.2.2.2.2.2.2.2.2.1 y.2.2.2.2.2.2.2.2.2.2.1 y.2.2.2.2.2.2.2.2.2.2.2.1 y.2.2.2.2.2.2.2.2.2.2.2.2.1 y.2.2.2.2.2.2.2.2.2.2.2.2.2.1 y.2.2.2.2.2.2.2.2.2.2.2.2.2.2.1 y.2.2.2.2.2.2.2.2.2.2.2.2.2.2.2.1) (d_3, tick_3, (stepOf ⟨l1_3, l2_3, l3_3⟩).2.1, (stepOf ⟨l1_3, l2_3, l3_3⟩).2.2, d_3, (d_3.length : Int), 0, p1_3, p2_3, l1_3, l2_3, l3_3, (stepOf ⟨l1_3, l2_3, l3_3⟩).1.now, (stepOf ⟨l1_3, l2_3, l3_3⟩).1.flights, (stepOf ⟨l1_3, l2_3, l3_3⟩).1.fates, [], ()))
  else (
    sp17.pre (l1_3, l2_3, l3_3, ()) ∧
  bif decide ((l2_3.length : Int) = 0) then (
    sp11.pre (()) ∧
    K (.bool true) [])
  else (
    K (.bool false) []))
def F8_J2 (K : Kn) (fate_1 : Int) (now_1 : Int) (t_1 : Bool) (p1_1 : Int) (p2_1 : ByteArray) : Prop :=
  bif t_1 then (
    sp11.pre (()) ∧
    K (.bool true) [])
  else (
    sp12.pre (IntKind.i64.wrap now_1, [], [fate_1], p1_1, p2_1, ()) ∧
  bif !decide ((sendOf ⟨(IntKind.i64.wrap now_1), [], [fate_1]⟩ ⟨p1_1, p2_1⟩).2 = 0) then (
    K (.bool false) [])
  else (
    sp24.pre (fate_1, ()) ∧
  LoopW (γ := prodL [.sl .i64, .int .i64, .int .i64, .str, .int .i64, .sl .flt, .sl .i64]) (fun V y => F8_B4 K V y.1 y.2.1 y.2.2.1 y.2.2.2.1 y.2.2.2.2.1 y.2.2.2.2.2.1 y.2.2.2.2.2.2.1) (delaysOf fate_1, 1, p1_1, p2_1, (sendOf ⟨(IntKind.i64.wrap now_1), [], [fate_1]⟩ ⟨p1_1, p2_1⟩).1.now, (sendOf ⟨(IntKind.i64.wrap now_1), [], [fate_1]⟩ ⟨p1_1, p2_1⟩).1.flights, (sendOf ⟨(IntKind.i64.wrap now_1), [], [fate_1]⟩ ⟨p1_1, p2_1⟩).1.fates, ())))
def F8 (g : prodL L8) (K : Kn) : Prop :=
  sp22.pre ([(⟨g.1, g.2.1⟩ : Pkt)], ()) ∧
  bif !(shortB [(⟨g.1, g.2.1⟩ : Pkt)]) then (
    F8_J2 K g.2.2.1 g.2.2.2.1 true g.1 g.2.1)
  else (
    F8_J2 K g.2.2.1 g.2.2.2.1 (decide (g.2.2.1 < 0)) g.1 g.2.1)
theorem F8_eq (g : prodL L8) (K X : Kn) : F8 g K = dfun D (gamX [] [(11, true, sp11), (12, false, sp12), (17, true, sp17), (19, false, sp19), (21, true, sp21), (22, true, sp22), (24, false, sp24)]) (isRaw []) H8 J8 79 [.tmp 6] (codeOf Try.f8) (argsT S8 L8 g) [] (settle0 K) X := by kernel_rfl
theorem F8_ok (g : prodL L8) (K X : Kn) (h : F8 g K) : FCalls Try.prog 8 (argsT S8 L8 g) [] K X :=
  FCalls.settle0 (dfun_sound (Γ := gamX [] [(11, true, sp11), (12, false, sp12), (17, true, sp17), (19, false, sp19), (21, true, sp21), (22, true, sp22), (24, false, sp24)]) (mu := isRaw []) (H := H8) (J := J8) D_ok (gamX_ok (rs := []) (l := [(11, true, sp11), (12, false, sp12), (17, true, sp17), (19, false, sp19), (21, true, sp21), (22, true, sp22), (24, false, sp24)]) (fun p hp => by cases hp) (by intro p hp; simp only [List.mem_cons, List.not_mem_nil, or_false] at hp; rcases hp with rfl | rfl | rfl | rfl | rfl | rfl | rfl <;> first | exact sp11_ok | exact sp12_ok | exact sp17_ok | exact sp19_ok | exact sp21_ok | exact sp22_ok | exact sp24_ok)) gamX_det rfl Try.func8 (c := codeOf Try.f8) rfl Try.ntmps8 Try.results8 (by unfold enters; rw [Try.func8]; kernel_rfl) (Nat.le_of_ble_eq_true (by kernel_rfl)) (X := X) (c0 := 0) (by rw [F8_eq g K X] at h; exact h))
/-- quilt/quiltlaw46.LinkApart -/
def H9 : List (Nat × Hint) := [(10, ⟨[((7, []), none), ((9, []), none)], [(7, .pt 0 0), (9, .pt 1 0), (54, .leaf)], [.cells [.leaf, .leaf, .leaf], .cells [.leaf, .leaf, .leaf]], [.int .i64, .int .i64, .sl .flt, .sl .i64, .int .i64, .sl .flt, .sl .i64]⟩)]
def J9 : List (Nat × Hint) := [(2, ⟨[], [(0, .leaf), (1, .leaf), (2, .leaf), (35, .leaf)], [], [.sl .pkt, .sl .pkt, .sl .i64, .bool]⟩), (14, ⟨[((7, []), none), ((9, []), none), ((11, []), none), ((14, []), none)], [(7, .pt 0 0), (9, .pt 1 0), (11, .pt 2 0), (14, .pt 3 0), (54, .leaf), (89, .leaf)], [.cells [.leaf, .leaf, .leaf], .cells [.leaf, .leaf, .leaf], .cells [.leaf, .leaf, .leaf], .cells [.leaf, .leaf, .leaf]], [.int .i64, .bool, .int .i64, .sl .flt, .sl .i64, .int .i64, .sl .flt, .sl .i64, .int .i64, .sl .flt, .sl .i64, .int .i64, .sl .flt, .sl .i64]⟩)]
abbrev S9 : List Sh := [.leaf, .leaf, .leaf]
abbrev L9 : List Lf := [.sl .pkt, .sl .pkt, .sl .i64]
def F9_J6 (K : Kn) (W4 : prodL [.int .i64, .int .i64, .sl .flt, .sl .i64, .int .i64, .sl .flt, .sl .i64] → Prop) (t_5 : Int) (t2_5 : Bool) (a1_5 : Int) (a2_5 : List Flt) (a3_5 : List Int) (b1_5 : Int) (b2_5 : List Flt) (b3_5 : List Int) (x1_5 : Int) (x2_5 : List Flt) (x3_5 : List Int) (y1_5 : Int) (y2_5 : List Flt) (y3_5 : List Int) : Prop :=
  bif t2_5 then (
    K (.bool false) [])
  else (
    W4 (IntKind.i64.wrap (t_5 + 1), x1_5, x2_5, x3_5, y1_5, y2_5, y3_5, ()))
def F9_B4 (K : Kn) (W4 : prodL [.int .i64, .int .i64, .sl .flt, .sl .i64, .int .i64, .sl .flt, .sl .i64] → Prop) (t_3 : Int) (a1_3 : Int) (a2_3 : List Flt) (a3_3 : List Int) (b1_3 : Int) (b2_3 : List Flt) (b3_3 : List Int) : Prop :=
  bif decide (t_3 < 9) then (
    sp19.pre (a1_3, a2_3, a3_3, ()) ∧
  sp19.pre (b1_3, b2_3, b3_3, ()) ∧
  bif !decide ((stepOf ⟨a1_3, a2_3, a3_3⟩).2.2 = 0) then (
    F9_J6 K W4 t_3 true a1_3 a2_3 a3_3 b1_3 b2_3 b3_3 ((stepOf ⟨a1_3, a2_3, a3_3⟩).1.now) ((stepOf ⟨a1_3, a2_3, a3_3⟩).1.flights) ((stepOf ⟨a1_3, a2_3, a3_3⟩).1.fates) ((stepOf ⟨b1_3, b2_3, b3_3⟩).1.now) ((stepOf ⟨b1_3, b2_3, b3_3⟩).1.flights) ((stepOf ⟨b1_3, b2_3, b3_3⟩).1.fates))
  else (
    bif !decide ((stepOf ⟨b1_3, b2_3, b3_3⟩).2.2 = 0) then (
      F9_J6 K W4 t_3 true a1_3 a2_3 a3_3 b1_3 b2_3 b3_3 ((stepOf ⟨a1_3, a2_3, a3_3⟩).1.now) ((stepOf ⟨a1_3, a2_3, a3_3⟩).1.flights) ((stepOf ⟨a1_3, a2_3, a3_3⟩).1.fates) ((stepOf ⟨b1_3, b2_3, b3_3⟩).1.now) ((stepOf ⟨b1_3, b2_3, b3_3⟩).1.flights) ((stepOf ⟨b1_3, b2_3, b3_3⟩).1.fates))
    else (
      bif decide (((((stepOf ⟨b1_3, b2_3, b3_3⟩).2.1).length : Nat) : Int) < ((((stepOf ⟨a1_3, a2_3, a3_3⟩).2.1).length : Nat) : Int)) then (
        F9_J6 K W4 t_3 true a1_3 a2_3 a3_3 b1_3 b2_3 b3_3 ((stepOf ⟨a1_3, a2_3, a3_3⟩).1.now) ((stepOf ⟨a1_3, a2_3, a3_3⟩).1.flights) ((stepOf ⟨a1_3, a2_3, a3_3⟩).1.fates) ((stepOf ⟨b1_3, b2_3, b3_3⟩).1.now) ((stepOf ⟨b1_3, b2_3, b3_3⟩).1.flights) ((stepOf ⟨b1_3, b2_3, b3_3⟩).1.fates))
      else (
        (0 : Int) ≤ 0 ∧ 0 ≤ ((((stepOf ⟨a1_3, a2_3, a3_3⟩).2.1).length : Nat) : Int) ∧ ((((stepOf ⟨a1_3, a2_3, a3_3⟩).2.1).length : Nat) : Int) ≤ (((stepOf ⟨b1_3, b2_3, b3_3⟩).2.1).length : Int) ∧
        sp21.pre ((stepOf ⟨a1_3, a2_3, a3_3⟩).2.1, (((stepOf ⟨b1_3, b2_3, b3_3⟩).2.1).take (((((stepOf ⟨a1_3, a2_3, a3_3⟩).2.1).length : Nat) : Int).toNat)).drop ((0 : Int).toNat), ()) ∧
        F9_J6 K W4 t_3 (!(decide (((stepOf ⟨a1_3, a2_3, a3_3⟩).2.1) = ((((stepOf ⟨b1_3, b2_3, b3_3⟩).2.1).take (((((stepOf ⟨a1_3, a2_3, a3_3⟩).2.1).length : Nat) : Int).toNat)).drop ((0 : Int).toNat))))) a1_3 a2_3 a3_3 b1_3 b2_3 b3_3 ((stepOf ⟨a1_3, a2_3, a3_3⟩).1.now) ((stepOf ⟨a1_3, a2_3, a3_3⟩).1.flights) ((stepOf ⟨a1_3, a2_3, a3_3⟩).1.fates) ((stepOf ⟨b1_3, b2_3, b3_3⟩).1.now) ((stepOf ⟨b1_3, b2_3, b3_3⟩).1.flights) ((stepOf ⟨b1_3, b2_3, b3_3⟩).1.fates)))))
  else (
    sp17.pre (a1_3, a2_3, a3_3, ()) ∧
  bif decide ((a2_3.length : Int) = 0) then (
    sp17.pre (b1_3, b2_3, b3_3, ()) ∧
    bif decide ((b2_3.length : Int) = 0) then (
      sp11.pre (()) ∧
      K (.bool true) [])
    else (
      K (.bool false) []))
  else (
    K (.bool false) []))
def F9_J2 (K : Kn) (ps_1 : List Pkt) (more_1 : List Pkt) (fates_1 : List Int) (t_1 : Bool) : Prop :=
  bif t_1 then (
    sp11.pre (()) ∧
    K (.bool true) [])
  else (
    sp23.pre (0, [], fates_1, ps_1, ()) ∧
  bif !((sentOf ⟨0, [], fates_1⟩ ps_1).2) then (
    K (.bool false) [])
  else (
    sp23.pre ((sentOf ⟨0, [], fates_1⟩ ps_1).1.now, (sentOf ⟨0, [], fates_1⟩ ps_1).1.flights, (sentOf ⟨0, [], fates_1⟩ ps_1).1.fates, more_1, ()) ∧
  bif !((sentOf ⟨((sentOf ⟨0, [], fates_1⟩ ps_1).1.now), ((sentOf ⟨0, [], fates_1⟩ ps_1).1.flights), ((sentOf ⟨0, [], fates_1⟩ ps_1).1.fates)⟩ more_1).2) then (
    K (.bool false) [])
  else (
    LoopW (γ := prodL [.int .i64, .int .i64, .sl .flt, .sl .i64, .int .i64, .sl .flt, .sl .i64]) (fun V y => F9_B4 K V y.1 y.2.1 y.2.2.1 y.2.2.2.1 y.2.2.2.2.1 y.2.2.2.2.2.1 y.2.2.2.2.2.2.1) (0, (sentOf ⟨0, [], fates_1⟩ ps_1).1.now, (sentOf ⟨0, [], fates_1⟩ ps_1).1.flights, (sentOf ⟨0, [], fates_1⟩ ps_1).1.fates, (sentOf ⟨((sentOf ⟨0, [], fates_1⟩ ps_1).1.now), ((sentOf ⟨0, [], fates_1⟩ ps_1).1.flights), ((sentOf ⟨0, [], fates_1⟩ ps_1).1.fates)⟩ more_1).1.now, (sentOf ⟨((sentOf ⟨0, [], fates_1⟩ ps_1).1.now), ((sentOf ⟨0, [], fates_1⟩ ps_1).1.flights), ((sentOf ⟨0, [], fates_1⟩ ps_1).1.fates)⟩ more_1).1.flights, (sentOf ⟨((sentOf ⟨0, [], fates_1⟩ ps_1).1.now), ((sentOf ⟨0, [], fates_1⟩ ps_1).1.flights), ((sentOf ⟨0, [], fates_1⟩ ps_1).1.fates)⟩ more_1).1.fates, ()))))
def F9 (g : prodL L9) (K : Kn) : Prop :=
  sp22.pre (g.1, ()) ∧
  bif !(shortB g.1) then (
    F9_J2 K g.1 g.2.1 g.2.2.1 true)
  else (
    sp22.pre (g.2.1, ()) ∧
    bif !(shortB g.2.1) then (
      F9_J2 K g.1 g.2.1 g.2.2.1 true)
    else (
      bif decide (20 < (g.2.2.1.length : Int)) then (
        F9_J2 K g.1 g.2.1 g.2.2.1 true)
      else (
        sp14.pre (0, [], g.2.2.1, ()) ∧
        F9_J2 K g.1 g.2.1 g.2.2.1 (!decide (Lnk.err ⟨0, [], g.2.2.1⟩ = 0)))))
theorem F9_eq (g : prodL L9) (K X : Kn) : F9 g K = dfun D (gamX [] [(11, true, sp11), (14, true, sp14), (17, true, sp17), (19, false, sp19), (21, true, sp21), (22, true, sp22), (23, false, sp23)]) (isRaw []) H9 J9 102 [.tmp 6] (codeOf Try.f9) (argsT S9 L9 g) [] (settle0 K) X := by kernel_rfl
theorem F9_ok (g : prodL L9) (K X : Kn) (h : F9 g K) : FCalls Try.prog 9 (argsT S9 L9 g) [] K X :=
  FCalls.settle0 (dfun_sound (Γ := gamX [] [(11, true, sp11), (14, true, sp14), (17, true, sp17), (19, false, sp19), (21, true, sp21), (22, true, sp22), (23, false, sp23)]) (mu := isRaw []) (H := H9) (J := J9) D_ok (gamX_ok (rs := []) (l := [(11, true, sp11), (14, true, sp14), (17, true, sp17), (19, false, sp19), (21, true, sp21), (22, true, sp22), (23, false, sp23)]) (fun p hp => by cases hp) (by intro p hp; simp only [List.mem_cons, List.not_mem_nil, or_false] at hp; rcases hp with rfl | rfl | rfl | rfl | rfl | rfl | rfl <;> first | exact sp11_ok | exact sp14_ok | exact sp17_ok | exact sp19_ok | exact sp21_ok | exact sp22_ok | exact sp23_ok)) gamX_det rfl Try.func9 (c := codeOf Try.f9) rfl Try.ntmps9 Try.results9 (by unfold enters; rw [Try.func9]; kernel_rfl) (Nat.le_of_ble_eq_true (by kernel_rfl)) (X := X) (c0 := 0) (by rw [F9_eq g K X] at h; exact h))
end Go.Proofs.Ythjikjhddddplaa
