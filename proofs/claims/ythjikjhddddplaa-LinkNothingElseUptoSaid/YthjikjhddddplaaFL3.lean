/- What functions come to: printed by exf.py. -/
import Derived.Test.YthjikjhddddplaaGB
namespace Go.Proofs.Ythjikjhddddplaa
set_option linter.unusedVariables false
set_option linter.unusedSimpArgs false
open Go.RowKit
/-- quilt/quiltlaw46.LinkSend -/
def H3 : List (Nat × Hint) := []
def J3 : List (Nat × Hint) := [(2, ⟨[((2, []), none), ((3, []), none)], [(2, .pt 0 0), (3, .pt 1 0), (16, .leaf)], [.cells [.leaf, .leaf, .leaf], .cells [.leaf, .leaf]], [.bool, .int .i64, .sl .flt, .sl .i64, .int .i64, .str]⟩)]
abbrev S3 : List Sh := [.ag [.leaf, .leaf, .leaf], .ag [.leaf, .leaf]]
abbrev L3 : List Lf := [.int .i64, .sl .flt, .sl .i64, .int .i64, .str]
def F3 (g : prodL L3) (K : Kn) : Prop :=
  let J2 : prodL [.bool, .int .i64, .sl .flt, .sl .i64, .int .i64, .str] → Prop := fun g1 => (
    bif g1.1 then (
      sp11.pre (()) ∧
      K (.bool true) [])
    else (
      sp12.pre (g1.2.1, g1.2.2.1, g1.2.2.2.1, g1.2.2.2.2.1, g1.2.2.2.2.2.1, ()) ∧
  sp13.pre (g1.2.1, g1.2.2.1, g1.2.2.2.1, g1.2.2.2.2.1, g1.2.2.2.2.2.1, ()) ∧
  sp14.pre (g1.2.1, g1.2.2.1, g1.2.2.2.1, ()) ∧
  sp15.pre (g1.2.1, g1.2.2.1, g1.2.2.2.1, ()) ∧
  bif decide (Lnk.err ⟨g1.2.1, g1.2.2.1, g1.2.2.2.1⟩ = Lnk.err ⟨g1.2.1, g1.2.2.1, g1.2.2.2.1⟩) then (
    sp16.pre ((sendOf ⟨g1.2.1, g1.2.2.1, g1.2.2.2.1⟩ ⟨g1.2.2.2.2.1, g1.2.2.2.2.2.1⟩).1.now, (sendOf ⟨g1.2.1, g1.2.2.1, g1.2.2.2.1⟩ ⟨g1.2.2.2.2.1, g1.2.2.2.2.2.1⟩).1.flights, (sendOf ⟨g1.2.1, g1.2.2.1, g1.2.2.2.1⟩ ⟨g1.2.2.2.2.1, g1.2.2.2.2.2.1⟩).1.fates, (sendOf ⟨g1.2.1, g1.2.2.1, g1.2.2.2.1⟩ ⟨g1.2.2.2.2.1, g1.2.2.2.2.2.1⟩).1.now, (sendOf ⟨g1.2.1, g1.2.2.1, g1.2.2.2.1⟩ ⟨g1.2.2.2.2.1, g1.2.2.2.2.2.1⟩).1.flights, (sendOf ⟨g1.2.1, g1.2.2.1, g1.2.2.2.1⟩ ⟨g1.2.2.2.2.1, g1.2.2.2.2.2.1⟩).1.fates, ()) ∧
    bif decide ((⟨((sendOf ⟨g1.2.1, g1.2.2.1, g1.2.2.2.1⟩ ⟨g1.2.2.2.2.1, g1.2.2.2.2.2.1⟩).1.now), ((sendOf ⟨g1.2.1, g1.2.2.1, g1.2.2.2.1⟩ ⟨g1.2.2.2.2.1, g1.2.2.2.2.2.1⟩).1.flights), ((sendOf ⟨g1.2.1, g1.2.2.1, g1.2.2.2.1⟩ ⟨g1.2.2.2.2.1, g1.2.2.2.2.2.1⟩).1.fates)⟩ : Lnk) = ⟨((sendOf ⟨g1.2.1, g1.2.2.1, g1.2.2.2.1⟩ ⟨g1.2.2.2.2.1, g1.2.2.2.2.2.1⟩).1.now), ((sendOf ⟨g1.2.1, g1.2.2.1, g1.2.2.2.1⟩ ⟨g1.2.2.2.2.1, g1.2.2.2.2.2.1⟩).1.flights), ((sendOf ⟨g1.2.1, g1.2.2.1, g1.2.2.2.1⟩ ⟨g1.2.2.2.2.1, g1.2.2.2.2.2.1⟩).1.fates)⟩) then (
      bif decide ((sendOf ⟨g1.2.1, g1.2.2.1, g1.2.2.2.1⟩ ⟨g1.2.2.2.2.1, g1.2.2.2.2.2.1⟩).2 = (sendOf ⟨g1.2.1, g1.2.2.1, g1.2.2.2.1⟩ ⟨g1.2.2.2.2.1, g1.2.2.2.2.2.1⟩).2) then (
        sp17.pre (g1.2.1, g1.2.2.1, g1.2.2.2.1, ()) ∧
        sp18.pre (g1.2.1, g1.2.2.1, g1.2.2.2.1, ()) ∧
        bif decide (decide ((g1.2.2.1.length : Int) = 0) = decide ((g1.2.2.1.length : Int) = 0)) then (
          sp11.pre (()) ∧
          K (.bool true) [])
        else (
          K (.bool false) []))
      else (
        K (.bool false) []))
    else (
      K (.bool false) []))
  else (
    K (.bool false) [])));
  sp10.pre (g.1, g.2.1, g.2.2.1, ()) ∧
  bif greatB g.2.1 g.2.2.1 then (
    J2 (true, g.1, g.2.1, g.2.2.1, g.2.2.2.1, g.2.2.2.2.1, ()))
  else (
    J2 (decide (200 < (g.2.2.2.2.1.size : Int)), g.1, g.2.1, g.2.2.1, g.2.2.2.1, g.2.2.2.2.1, ()))
theorem F3_eq (g : prodL L3) (K X : Kn) : F3 g K = dfun D (gamX [] [(10, true, sp10), (11, true, sp11), (12, false, sp12), (13, false, sp13), (14, true, sp14), (15, true, sp15), (16, true, sp16), (17, true, sp17), (18, true, sp18)]) (isRaw []) H3 J3 55 [.tmp 4] (codeOf Try.f3) (argsT S3 L3 g) [] (settle0 K) X := by kernel_rfl
theorem F3_ok (g : prodL L3) (K X : Kn) (h : F3 g K) : FCalls Try.prog 3 (argsT S3 L3 g) [] K X :=
  FCalls.settle0 (dfun_sound (Γ := gamX [] [(10, true, sp10), (11, true, sp11), (12, false, sp12), (13, false, sp13), (14, true, sp14), (15, true, sp15), (16, true, sp16), (17, true, sp17), (18, true, sp18)]) (mu := isRaw []) (H := H3) (J := J3) D_ok (gamX_ok (rs := []) (l := [(10, true, sp10), (11, true, sp11), (12, false, sp12), (13, false, sp13), (14, true, sp14), (15, true, sp15), (16, true, sp16), (17, true, sp17), (18, true, sp18)]) (fun p hp => by cases hp) (by intro p hp; simp only [List.mem_cons, List.not_mem_nil, or_false] at hp; rcases hp with rfl | rfl | rfl | rfl | rfl | rfl | rfl | rfl | rfl <;> first | exact sp10_ok | exact sp11_ok | exact sp12_ok | exact sp13_ok | exact sp14_ok | exact sp15_ok | exact sp16_ok | exact sp17_ok | exact sp18_ok)) gamX_det rfl Try.func3 (c := codeOf Try.f3) rfl Try.ntmps3 Try.results3 (by unfold enters; rw [Try.func3]; kernel_rfl) (Nat.le_of_ble_eq_true (by kernel_rfl)) (X := X) (c0 := 0) (by rw [F3_eq g K X] at h; exact h))
/-- quilt/quiltlaw46.LinkStep -/
def H4 : List (Nat × Hint) := []
def J4 : List (Nat × Hint) := []
abbrev S4 : List Sh := [.ag [.leaf, .leaf, .leaf]]
abbrev L4 : List Lf := [.int .i64, .sl .flt, .sl .i64]
def F4 (g : prodL L4) (K : Kn) : Prop :=
  sp10.pre (g.1, g.2.1, g.2.2.1, ()) ∧
  bif greatB g.2.1 g.2.2.1 then (
    sp11.pre (()) ∧
    K (.bool true) [])
  else (
    sp19.pre (g.1, g.2.1, g.2.2.1, ()) ∧
  sp20.pre (g.1, g.2.1, g.2.2.1, ()) ∧
  sp16.pre ((stepOf ⟨g.1, g.2.1, g.2.2.1⟩).1.now, (stepOf ⟨g.1, g.2.1, g.2.2.1⟩).1.flights, (stepOf ⟨g.1, g.2.1, g.2.2.1⟩).1.fates, (stepOf ⟨g.1, g.2.1, g.2.2.1⟩).1.now, (stepOf ⟨g.1, g.2.1, g.2.2.1⟩).1.flights, (stepOf ⟨g.1, g.2.1, g.2.2.1⟩).1.fates, ()) ∧
  bif decide ((⟨((stepOf ⟨g.1, g.2.1, g.2.2.1⟩).1.now), ((stepOf ⟨g.1, g.2.1, g.2.2.1⟩).1.flights), ((stepOf ⟨g.1, g.2.1, g.2.2.1⟩).1.fates)⟩ : Lnk) = ⟨((stepOf ⟨g.1, g.2.1, g.2.2.1⟩).1.now), ((stepOf ⟨g.1, g.2.1, g.2.2.1⟩).1.flights), ((stepOf ⟨g.1, g.2.1, g.2.2.1⟩).1.fates)⟩) then (
    sp21.pre ((stepOf ⟨g.1, g.2.1, g.2.2.1⟩).2.1, (stepOf ⟨g.1, g.2.1, g.2.2.1⟩).2.1, ()) ∧
    bif decide (((stepOf ⟨g.1, g.2.1, g.2.2.1⟩).2.1) = ((stepOf ⟨g.1, g.2.1, g.2.2.1⟩).2.1)) then (
      bif decide ((stepOf ⟨g.1, g.2.1, g.2.2.1⟩).2.2 = (stepOf ⟨g.1, g.2.1, g.2.2.1⟩).2.2) then (
        sp11.pre (()) ∧
        K (.bool true) [])
      else (
        K (.bool false) []))
    else (
      K (.bool false) []))
  else (
    K (.bool false) []))
theorem F4_eq (g : prodL L4) (K X : Kn) : F4 g K = dfun D (gamX [] [(10, true, sp10), (11, true, sp11), (16, true, sp16), (19, false, sp19), (20, false, sp20), (21, true, sp21)]) (isRaw []) H4 J4 40 [.tmp 2] (codeOf Try.f4) (argsT S4 L4 g) [] (settle0 K) X := by kernel_rfl
theorem F4_ok (g : prodL L4) (K X : Kn) (h : F4 g K) : FCalls Try.prog 4 (argsT S4 L4 g) [] K X :=
  FCalls.settle0 (dfun_sound (Γ := gamX [] [(10, true, sp10), (11, true, sp11), (16, true, sp16), (19, false, sp19), (20, false, sp20), (21, true, sp21)]) (mu := isRaw []) (H := H4) (J := J4) D_ok (gamX_ok (rs := []) (l := [(10, true, sp10), (11, true, sp11), (16, true, sp16), (19, false, sp19), (20, false, sp20), (21, true, sp21)]) (fun p hp => by cases hp) (by intro p hp; simp only [List.mem_cons, List.not_mem_nil, or_false] at hp; rcases hp with rfl | rfl | rfl | rfl | rfl | rfl <;> first | exact sp10_ok | exact sp11_ok | exact sp16_ok | exact sp19_ok | exact sp20_ok | exact sp21_ok)) gamX_det rfl Try.func4 (c := codeOf Try.f4) rfl Try.ntmps4 Try.results4 (by unfold enters; rw [Try.func4]; kernel_rfl) (Nat.le_of_ble_eq_true (by kernel_rfl)) (X := X) (c0 := 0) (by rw [F4_eq g K X] at h; exact h))
end Go.Proofs.Ythjikjhddddplaa
