/- What functions come to: printed by exf.py. -/
import Derived.Test.YthjikjhddddplaaGC
namespace Go.Proofs.Ythjikjhddddplaa
set_option linter.unusedVariables false
set_option linter.unusedSimpArgs false
open Go.RowKit
/-- quilt/quiltlaw46.LinkValid -/
def H5 : List (Nat × Hint) := []
def J5 : List (Nat × Hint) := [(2, ⟨[((2, []), none), ((3, []), none)], [(2, .pt 0 0), (3, .pt 1 0), (17, .leaf)], [.cells [.leaf, .leaf, .leaf], .cells [.leaf, .leaf]], [.bool, .int .i64, .sl .flt, .sl .i64, .int .i64, .str]⟩), (6, ⟨[((5, []), none), ((7, []), none)], [(5, .pt 0 0), (6, .leaf), (7, .pt 1 0), (8, .leaf), (9, .leaf), (41, .leaf)], [.cells [.leaf, .leaf, .leaf], .cells [.leaf, .leaf, .leaf]], [.int .i64, .sl .pkt, .int .i64, .bool, .int .i64, .sl .flt, .sl .i64, .int .i64, .sl .flt, .sl .i64]⟩), (8, ⟨[((5, []), none), ((7, []), none)], [(5, .pt 0 0), (6, .leaf), (7, .pt 1 0), (8, .leaf), (9, .leaf), (57, .leaf)], [.cells [.leaf, .leaf, .leaf], .cells [.leaf, .leaf, .leaf]], [.int .i64, .sl .pkt, .int .i64, .bool, .int .i64, .sl .flt, .sl .i64, .int .i64, .sl .flt, .sl .i64]⟩)]
abbrev S5 : List Sh := [.ag [.leaf, .leaf, .leaf], .ag [.leaf, .leaf]]
abbrev L5 : List Lf := [.int .i64, .sl .flt, .sl .i64, .int .i64, .str]
def F5_J6 (K : Kn) (e_5 : Int) (q_5 : List Pkt) (f_5 : Int) (t_5 : Bool) (a1_5 : Int) (a2_5 : List Flt) (a3_5 : List Int) (b1_5 : Int) (b2_5 : List Flt) (b3_5 : List Int) : Prop :=
  bif t_5 then (
    K (.bool false) [])
  else (
    bif decide (e_5 = 0) then (
    bif decide (f_5 = 0) then (
      sp11.pre (()) ∧
      K (.bool true) [])
    else (
      sp16.pre (b1_5, b2_5, b3_5, 0, [], [], ()) ∧
      bif decide ((⟨b1_5, b2_5, b3_5⟩ : Lnk) = ⟨0, [], []⟩) then (
        bif decide ((q_5.length : Int) = 0) then (
          sp11.pre (()) ∧
          K (.bool true) [])
        else (
          K (.bool false) []))
      else (
        K (.bool false) [])))
  else (
    sp16.pre (a1_5, a2_5, a3_5, 0, [], [], ()) ∧
    bif decide ((⟨a1_5, a2_5, a3_5⟩ : Lnk) = ⟨0, [], []⟩) then (
      bif decide (f_5 = 0) then (
        sp11.pre (()) ∧
        K (.bool true) [])
      else (
        sp16.pre (b1_5, b2_5, b3_5, 0, [], [], ()) ∧
        bif decide ((⟨b1_5, b2_5, b3_5⟩ : Lnk) = ⟨0, [], []⟩) then (
          bif decide ((q_5.length : Int) = 0) then (
            sp11.pre (()) ∧
            K (.bool true) [])
          else (
            K (.bool false) []))
        else (
          K (.bool false) [])))
    else (
      K (.bool false) [])))
def F5_J4 (K : Kn) (e_3 : Int) (q_3 : List Pkt) (f_3 : Int) (t_3 : Bool) (a1_3 : Int) (a2_3 : List Flt) (a3_3 : List Int) (b1_3 : Int) (b2_3 : List Flt) (b3_3 : List Int) : Prop :=
  bif t_3 then (
    K (.bool false) [])
  else (
    bif decide (e_3 = 0) then (
    sp14.pre (a1_3, a2_3, a3_3, ()) ∧
    bif !decide (Lnk.err ⟨a1_3, a2_3, a3_3⟩ = 0) then (
      F5_J6 K e_3 q_3 f_3 true a1_3 a2_3 a3_3 b1_3 b2_3 b3_3)
    else (
      bif decide (f_3 = 0) then (
        sp14.pre (b1_3, b2_3, b3_3, ()) ∧
        F5_J6 K e_3 q_3 f_3 (!decide (Lnk.err ⟨b1_3, b2_3, b3_3⟩ = 0)) a1_3 a2_3 a3_3 b1_3 b2_3 b3_3)
      else (
        F5_J6 K e_3 q_3 f_3 false a1_3 a2_3 a3_3 b1_3 b2_3 b3_3)))
  else (
    bif decide (f_3 = 0) then (
      sp14.pre (b1_3, b2_3, b3_3, ()) ∧
      F5_J6 K e_3 q_3 f_3 (!decide (Lnk.err ⟨b1_3, b2_3, b3_3⟩ = 0)) a1_3 a2_3 a3_3 b1_3 b2_3 b3_3)
    else (
      F5_J6 K e_3 q_3 f_3 false a1_3 a2_3 a3_3 b1_3 b2_3 b3_3)))
def F5_J2 (K : Kn) (t_1 : Bool) (l1_1 : Int) (l2_1 : List Flt) (l3_1 : List Int) (p1_1 : Int) (p2_1 : ByteArray) : Prop :=
  bif t_1 then (
    sp11.pre (()) ∧
    K (.bool true) [])
  else (
    sp12.pre (l1_1, l2_1, l3_1, p1_1, p2_1, ()) ∧
  sp19.pre (l1_1, l2_1, l3_1, ()) ∧
  bif decide ((sendOf ⟨l1_1, l2_1, l3_1⟩ ⟨p1_1, p2_1⟩).2 = 0) then (
    sp14.pre (l1_1, l2_1, l3_1, ()) ∧
    F5_J4 K ((sendOf ⟨l1_1, l2_1, l3_1⟩ ⟨p1_1, p2_1⟩).2) ((stepOf ⟨l1_1, l2_1, l3_1⟩).2.1) ((stepOf ⟨l1_1, l2_1, l3_1⟩).2.2) (!decide (Lnk.err ⟨l1_1, l2_1, l3_1⟩ = 0)) ((sendOf ⟨l1_1, l2_1, l3_1⟩ ⟨p1_1, p2_1⟩).1.now) ((sendOf ⟨l1_1, l2_1, l3_1⟩ ⟨p1_1, p2_1⟩).1.flights) ((sendOf ⟨l1_1, l2_1, l3_1⟩ ⟨p1_1, p2_1⟩).1.fates) ((stepOf ⟨l1_1, l2_1, l3_1⟩).1.now) ((stepOf ⟨l1_1, l2_1, l3_1⟩).1.flights) ((stepOf ⟨l1_1, l2_1, l3_1⟩).1.fates))
  else (
    bif decide ((stepOf ⟨l1_1, l2_1, l3_1⟩).2.2 = 0) then (
      sp14.pre (l1_1, l2_1, l3_1, ()) ∧
      F5_J4 K ((sendOf ⟨l1_1, l2_1, l3_1⟩ ⟨p1_1, p2_1⟩).2) ((stepOf ⟨l1_1, l2_1, l3_1⟩).2.1) ((stepOf ⟨l1_1, l2_1, l3_1⟩).2.2) (!decide (Lnk.err ⟨l1_1, l2_1, l3_1⟩ = 0)) ((sendOf ⟨l1_1, l2_1, l3_1⟩ ⟨p1_1, p2_1⟩).1.now) ((sendOf ⟨l1_1, l2_1, l3_1⟩ ⟨p1_1, p2_1⟩).1.flights) ((sendOf ⟨l1_1, l2_1, l3_1⟩ ⟨p1_1, p2_1⟩).1.fates) ((stepOf ⟨l1_1, l2_1, l3_1⟩).1.now) ((stepOf ⟨l1_1, l2_1, l3_1⟩).1.flights) ((stepOf ⟨l1_1, l2_1, l3_1⟩).1.fates))
    else (
      F5_J4 K ((sendOf ⟨l1_1, l2_1, l3_1⟩ ⟨p1_1, p2_1⟩).2) ((stepOf ⟨l1_1, l2_1, l3_1⟩).2.1) ((stepOf ⟨l1_1, l2_1, l3_1⟩).2.2) false ((sendOf ⟨l1_1, l2_1, l3_1⟩ ⟨p1_1, p2_1⟩).1.now) ((sendOf ⟨l1_1, l2_1, l3_1⟩ ⟨p1_1, p2_1⟩).1.flights) ((sendOf ⟨l1_1, l2_1, l3_1⟩ ⟨p1_1, p2_1⟩).1.fates) ((stepOf ⟨l1_1, l2_1, l3_1⟩).1.now) ((stepOf ⟨l1_1, l2_1, l3_1⟩).1.flights) ((stepOf ⟨l1_1, l2_1, l3_1⟩).1.fates))))
def F5 (g : prodL L5) (K : Kn) : Prop :=
  sp10.pre (g.1, g.2.1, g.2.2.1, ()) ∧
  bif greatB g.2.1 g.2.2.1 then (
    F5_J2 K true g.1 g.2.1 g.2.2.1 g.2.2.2.1 g.2.2.2.2.1)
  else (
    F5_J2 K (decide (200 < (g.2.2.2.2.1.size : Int))) g.1 g.2.1 g.2.2.1 g.2.2.2.1 g.2.2.2.2.1)
theorem F5_eq (g : prodL L5) (K X : Kn) : F5 g K = dfun D (gamX [] [(10, true, sp10), (11, true, sp11), (12, false, sp12), (14, true, sp14), (16, true, sp16), (19, false, sp19)]) (isRaw []) H5 J5 82 [.tmp 4] (codeOf Try.f5) (argsT S5 L5 g) [] (settle0 K) X := by kernel_rfl
theorem F5_ok (g : prodL L5) (K X : Kn) (h : F5 g K) : FCalls Try.prog 5 (argsT S5 L5 g) [] K X :=
  FCalls.settle0 (dfun_sound (Γ := gamX [] [(10, true, sp10), (11, true, sp11), (12, false, sp12), (14, true, sp14), (16, true, sp16), (19, false, sp19)]) (mu := isRaw []) (H := H5) (J := J5) D_ok (gamX_ok (rs := []) (l := [(10, true, sp10), (11, true, sp11), (12, false, sp12), (14, true, sp14), (16, true, sp16), (19, false, sp19)]) (fun p hp => by cases hp) (by intro p hp; simp only [List.mem_cons, List.not_mem_nil, or_false] at hp; rcases hp with rfl | rfl | rfl | rfl | rfl | rfl <;> first | exact sp10_ok | exact sp11_ok | exact sp12_ok | exact sp14_ok | exact sp16_ok | exact sp19_ok)) gamX_det rfl Try.func5 (c := codeOf Try.f5) rfl Try.ntmps5 Try.results5 (by unfold enters; rw [Try.func5]; kernel_rfl) (Nat.le_of_ble_eq_true (by kernel_rfl)) (X := X) (c0 := 0) (by rw [F5_eq g K X] at h; exact h))
end Go.Proofs.Ythjikjhddddplaa
