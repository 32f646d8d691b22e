/- What functions come to: printed by exf.py. -/
import Derived.Test.YthjikjhddddplaaFW
namespace Go.Proofs.Ythjikjhddddplaa
set_option linter.unusedVariables false
set_option linter.unusedSimpArgs false
open Go.RowKit
/-- quilt/link.Check -/
def H14 : List (Nat × Hint) := [(6, ⟨[((1, []), none)], [(1, .pt 0 0), (19, .leaf), (20, .leaf), (21, .leaf)], [.cells [.leaf, .leaf, .leaf]], [.sl .flt, .int .i64, .int .i64, .int .i64, .sl .flt, .sl .i64]⟩)]
def J14 : List (Nat × Hint) := [(2, ⟨[((1, []), none)], [(1, .pt 0 0), (13, .leaf)], [.cells [.leaf, .leaf, .leaf]], [.bool, .int .i64, .sl .flt, .sl .i64]⟩), (12, ⟨[((1, []), none)], [(1, .pt 0 0), (19, .leaf), (20, .leaf), (21, .leaf), (43, .leaf)], [.cells [.leaf, .leaf, .leaf]], [.sl .flt, .int .i64, .int .i64, .bool, .int .i64, .sl .flt, .sl .i64]⟩)]
abbrev S14 : List Sh := [.ag [.leaf, .leaf, .leaf]]
abbrev L14 : List Lf := [.int .i64, .sl .flt, .sl .i64]
def F14 (g : prodL L14) (K : Kn) : Prop :=
  let J2 : prodL [.bool, .int .i64, .sl .flt, .sl .i64] → Prop := fun g1 => (
    bif g1.1 then (
      K (.int .i64 2) [])
    else (
      bif decide (1000 < (g1.2.2.1.length : Int)) then (
    K (.int .i64 17) [])
  else (
    LoopW (γ := prodL [.sl .flt, .int .i64, .int .i64, .int .i64, .sl .flt, .sl .i64]) (fun W4 g3 =>
    bif decide (g3.2.2.1 < g3.2.1) then (
      At g3.1 g3.2.2.1 fun u5 =>
    sp26.pre (u5.pkt.to, u5.pkt.data, ()) ∧
    bif !decide (pktErr ⟨u5.pkt.to, u5.pkt.data⟩ = 0) then (
      K (.int .i64 (pktErr ⟨u5.pkt.to, u5.pkt.data⟩)) [])
    else (
      let J7 : prodL [.sl .flt, .int .i64, .int .i64, .bool, .int .i64, .sl .flt, .sl .i64] → Prop := fun g6 => (
      bif g6.2.2.2.1 then (
        K (.int .i64 2) [])
      else (
        W4 (g6.1, g6.2.1, IntKind.i64.wrap (g6.2.2.1 + 1), g6.2.2.2.2.1, g6.2.2.2.2.2.1, g6.2.2.2.2.2.2.1, ())));
    bif decide (u5.due ≤ g3.2.2.2.1) then (
      J7 (g3.1, g3.2.1, g3.2.2.1, true, g3.2.2.2.1, g3.2.2.2.2.1, g3.2.2.2.2.2.1, ()))
    else (
      J7 (g3.1, g3.2.1, g3.2.2.1, decide (IntKind.i64.wrap (g3.2.2.2.1 + 9) < u5.due), g3.2.2.2.1, g3.2.2.2.2.1, g3.2.2.2.2.2.1, ()))))
    else (
      bif decide (1000 < (g3.2.2.2.2.2.1.length : Int)) then (
    K (.int .i64 17) [])
  else (
    sp29.pre (g3.2.2.2.2.2.1, ()) ∧
  bif anyNeg g3.2.2.2.2.2.1 then (
    K (.int .i64 2) [])
  else (
    K (.int .i64 0) [])))) (g1.2.2.1, (g1.2.2.1.length : Int), 0, g1.2.1, g1.2.2.1, g1.2.2.2.1, ()))));
  bif decide (g.1 < 0) then (
    J2 (true, g.1, g.2.1, g.2.2.1, ()))
  else (
    J2 (decide (1099511627776 < g.1), g.1, g.2.1, g.2.2.1, ()))
theorem F14_eq (g : prodL L14) (K X : Kn) : F14 g K = dfun D (gamX [] [(26, true, sp26), (29, true, sp29)]) (isRaw []) H14 J14 52 [.tmp 2] (codeOf Try.f14) (argsT S14 L14 g) [] (settle0 K) X := by kernel_rfl
theorem F14_ok (g : prodL L14) (K X : Kn) (h : F14 g K) : FCalls Try.prog 14 (argsT S14 L14 g) [] K X :=
  FCalls.settle0 (dfun_sound (Γ := gamX [] [(26, true, sp26), (29, true, sp29)]) (mu := isRaw []) (H := H14) (J := J14) D_ok (gamX_ok (rs := []) (l := [(26, true, sp26), (29, true, sp29)]) (fun p hp => by cases hp) (by intro p hp; simp only [List.mem_cons, List.not_mem_nil, or_false] at hp; rcases hp with rfl | rfl <;> first | exact sp26_ok | exact sp29_ok)) gamX_det rfl Try.func14 (c := codeOf Try.f14) rfl Try.ntmps14 Try.results14 (by unfold enters; rw [Try.func14]; kernel_rfl) (Nat.le_of_ble_eq_true (by kernel_rfl)) (X := X) (c0 := 0) (by rw [F14_eq g K X] at h; exact h))
/-- quilt/quiltref46.Send -/
def H13 : List (Nat × Hint) := [(14, ⟨[((2, []), none), ((3, []), none), ((4, []), none), ((7, []), none), ((7, [1]), none), ((7, [2]), none)], [(2, .pt 0 0), (3, .pt 1 0), (4, .pt 2 0), (7, .pt 3 0), (8, .leaf), (9, .leaf)], [.cells [.leaf, .leaf, .leaf], .cells [.leaf, .leaf], .cells [.leaf, .nil, .nil], .cells [.leaf, .oa .flt 4, .oa .i64 5], .arr .flt, .arr .i64], [.sl .i64, .int .i64, .int .i64, .sl .flt, .sl .i64, .int .i64, .str, .int .i64, .int .i64, .sl .flt, .sl .i64]⟩)]
def J13 : List (Nat × Hint) := [(4, ⟨[((2, []), none), ((3, []), none), ((4, []), none)], [(2, .pt 0 0), (3, .pt 1 0), (4, .pt 2 0), (21, .leaf)], [.cells [.leaf, .leaf, .leaf], .cells [.leaf, .leaf], .cells [.leaf, .nil, .nil]], [.bool, .int .i64, .sl .flt, .sl .i64, .int .i64, .str, .int .i64]⟩), (12, ⟨[((2, []), none), ((3, []), none), ((4, []), none), ((7, []), none), ((7, [1]), none), ((7, [2]), some .i64)], [(2, .pt 0 0), (3, .pt 1 0), (4, .pt 2 0), (6, .leaf), (7, .pt 3 0)], [.cells [.leaf, .leaf, .leaf], .cells [.leaf, .leaf], .cells [.leaf, .nil, .nil], .cells [.leaf, .oa .flt 4, .oa .i64 5], .arr .flt, .arr .i64], [.int .i64, .int .i64, .sl .flt, .sl .i64, .int .i64, .str, .int .i64, .int .i64, .sl .flt, .sl .i64]⟩)]
abbrev S13 : List Sh := [.ag [.leaf, .leaf, .leaf], .ag [.leaf, .leaf]]
abbrev L13 : List Lf := [.int .i64, .sl .flt, .sl .i64, .int .i64, .str]
def F13 (g : prodL L13) (K : Kn) : Prop :=
  sp15.pre (g.1, g.2.1, g.2.2.1, ()) ∧
  bif !decide (Lnk.err ⟨g.1, g.2.1, g.2.2.1⟩ = 0) then (
    K (.tu [.ag [.int .i64 0, .nil, .nil], .int .i64 1]) [])
  else (
    let J2 : prodL [.bool, .int .i64, .sl .flt, .sl .i64, .int .i64, .str, .int .i64] → Prop := fun g1 => (
    bif g1.1 then (
      K (.tu [.ag [.int .i64 0, .nil, .nil], .int .i64 2]) [])
    else (
      bif decide (65536 < (g1.2.2.2.2.2.1.size : Int)) then (
    K (.tu [.ag [.int .i64 0, .nil, .nil], .int .i64 4]) [])
  else (
    Room g1.2.2.1.length 32 (
  let J8 : prodL [.int .i64, .int .i64, .sl .flt, .sl .i64, .int .i64, .str, .int .i64, .int .i64, .sl .flt, .sl .i64] → Prop := fun g4 => (
    sp24.pre (g4.1, ()) ∧
    LoopW (γ := prodL [.sl .i64, .int .i64, .int .i64, .sl .flt, .sl .i64, .int .i64, .str, .int .i64, .int .i64, .sl .flt, .sl .i64]) (fun W6 g5 =>
      bif decide (g5.2.1 < (g5.1.length : Int)) then (
        At g5.1 g5.2.1 fun u7 =>
      Room (g5.2.2.2.2.2.2.2.2.2.1.length + [(⟨⟨g5.2.2.2.2.2.1, g5.2.2.2.2.2.2.1⟩, (IntKind.i64.wrap (g5.2.2.1 + u7))⟩ : Flt)].length) 32 (
      W6 (g5.1, IntKind.i64.wrap (g5.2.1 + 1), g5.2.2.1, g5.2.2.2.1, g5.2.2.2.2.1, g5.2.2.2.2.2.1, g5.2.2.2.2.2.2.1, g5.2.2.2.2.2.2.2.1, g5.2.2.2.2.2.2.2.2.1, g5.2.2.2.2.2.2.2.2.2.1 ++ [(⟨⟨g5.2.2.2.2.2.1, g5.2.2.2.2.2.2.1⟩, (IntKind.i64.wrap (g5.2.2.1 + u7))⟩ : Flt)], g5.2.2.2.2.2.2.2.2.2.2.1, ())))
      else (
        bif decide (1000 < (g5.2.2.2.2.2.2.2.2.2.1.length : Int)) then (
      K (.tu [.ag [.int .i64 0, .nil, .nil], .int .i64 17]) [])
    else (
      K (.tu [.ag [.int .i64 g5.2.2.2.2.2.2.2.2.1, .sl false .flt g5.2.2.2.2.2.2.2.2.2.1, .sl false .i64 g5.2.2.2.2.2.2.2.2.2.2.1], .int .i64 0]) []))) (delaysOf g4.1, 0, g4.2.1, g4.2.2.1, g4.2.2.2.1, g4.2.2.2.2.1, g4.2.2.2.2.2.1, g4.2.2.2.2.2.2.1, g4.2.2.2.2.2.2.2.1, g4.2.2.2.2.2.2.2.2.1, g4.2.2.2.2.2.2.2.2.2.1, ()));
  bif decide (0 < (g1.2.2.2.1.length : Int)) then (
    At g1.2.2.2.1 0 fun u3 =>
    (0 : Int) ≤ 1 ∧ 1 ≤ (g1.2.2.2.1.length : Int) ∧
    Room ((g1.2.2.2.1.drop ((1 : Int).toNat)).length) 8 (
    J8 (u3, g1.2.1, g1.2.2.1, g1.2.2.2.1, g1.2.2.2.2.1, g1.2.2.2.2.2.1, g1.2.2.2.2.2.2.1, g1.2.1, g1.2.2.1, g1.2.2.2.1.drop ((1 : Int).toNat), ())))
  else (
    J8 (1, g1.2.1, g1.2.2.1, g1.2.2.2.1, g1.2.2.2.2.1, g1.2.2.2.2.2.1, g1.2.2.2.2.2.2.1, g1.2.1, g1.2.2.1, [], ()))))));
  bif !decide (g.2.2.2.1 = 0) then (
    J2 (!decide (g.2.2.2.1 = 1), g.1, g.2.1, g.2.2.1, g.2.2.2.1, g.2.2.2.2.1, 0, ()))
  else (
    J2 (false, g.1, g.2.1, g.2.2.1, g.2.2.2.1, g.2.2.2.2.1, 0, ())))
theorem F13_eq (g : prodL L13) (K X : Kn) : F13 g K = dfun D (gamX [] [(15, true, sp15), (24, false, sp24)]) (isRaw []) H13 J13 77 [.cell 4 25, .tmp 5] (codeOf Try.f13) (argsT S13 L13 g) [] (settle0 K) X := by kernel_rfl
theorem F13_ok (g : prodL L13) (K X : Kn) (h : F13 g K) : FCalls Try.prog 13 (argsT S13 L13 g) [] K X :=
  FCalls.settle0 (dfun_sound (Γ := gamX [] [(15, true, sp15), (24, false, sp24)]) (mu := isRaw []) (H := H13) (J := J13) D_ok (gamX_ok (rs := []) (l := [(15, true, sp15), (24, false, sp24)]) (fun p hp => by cases hp) (by intro p hp; simp only [List.mem_cons, List.not_mem_nil, or_false] at hp; rcases hp with rfl | rfl <;> first | exact sp15_ok | exact sp24_ok)) gamX_det rfl Try.func13 (c := codeOf Try.f13) rfl Try.ntmps13 Try.results13 (by unfold enters; rw [Try.func13]; kernel_rfl) (Nat.le_of_ble_eq_true (by kernel_rfl)) (X := X) (c0 := 0) (by rw [F13_eq g K X] at h; exact h))
/-- quilt/quiltref46.Step -/
def H20 : List (Nat × Hint) := [(8, ⟨[((1, []), none), ((2, []), none), ((5, []), none), ((6, []), some .pkt), ((5, [1]), some .flt)], [(1, .pt 0 0), (2, .pt 1 0), (5, .pt 2 0), (6, .oa .pkt 3), (7, .leaf)], [.cells [.leaf, .leaf, .leaf], .cells [.leaf, .nil, .nil], .cells [.leaf, .oa .flt 4, .leaf], .arr .pkt, .arr .flt], [.int .i64, .int .i64, .sl .flt, .sl .i64, .int .i64, .int .i64, .sl .i64, .sl .pkt, .sl .flt]⟩)]
def J20 : List (Nat × Hint) := [(9, ⟨[((1, []), none), ((2, []), none), ((5, []), none), ((6, []), none), ((5, [1]), none)], [(1, .pt 0 0), (2, .pt 1 0), (5, .pt 2 0), (6, .oa .pkt 3), (7, .leaf)], [.cells [.leaf, .leaf, .leaf], .cells [.leaf, .nil, .nil], .cells [.leaf, .oa .flt 4, .leaf], .arr .pkt, .arr .flt], [.int .i64, .int .i64, .sl .flt, .sl .i64, .int .i64, .int .i64, .sl .i64, .sl .pkt, .sl .flt]⟩)]
abbrev S20 : List Sh := [.ag [.leaf, .leaf, .leaf]]
abbrev L20 : List Lf := [.int .i64, .sl .flt, .sl .i64]
def F20 (g : prodL L20) (K : Kn) : Prop :=
  sp15.pre (g.1, g.2.1, g.2.2.1, ()) ∧
  bif !decide (Lnk.err ⟨g.1, g.2.1, g.2.2.1⟩ = 0) then (
    K (.tu [.ag [.int .i64 0, .nil, .nil], .nil, .int .i64 1]) [])
  else (
    bif decide (g.1 = 1099511627776) then (
    K (.tu [.ag [.int .i64 0, .nil, .nil], .nil, .int .i64 4]) [])
  else (
    LoopW (γ := prodL [.int .i64, .int .i64, .sl .flt, .sl .i64, .int .i64, .int .i64, .sl .i64, .sl .pkt, .sl .flt]) (fun W9 g8 =>
    bif decide (g8.1 < (g8.2.2.1.length : Int)) then (
      let J14 : prodL [.int .i64, .int .i64, .sl .flt, .sl .i64, .int .i64, .int .i64, .sl .i64, .sl .pkt, .sl .flt] → Prop := fun g13 => (
      W9 (IntKind.i64.wrap (g13.1 + 1), g13.2.1, g13.2.2.1, g13.2.2.2.1, g13.2.2.2.2.1, g13.2.2.2.2.2.1, g13.2.2.2.2.2.2.1, g13.2.2.2.2.2.2.2.1, g13.2.2.2.2.2.2.2.2.1, ()));
    At g8.2.2.1 g8.1 fun u10 =>
    bif decide (u10.due ≤ g8.2.2.2.2.2.1) then (
      At g8.2.2.1 g8.1 fun u11 =>
      Room (g8.2.2.2.2.2.2.2.1.length + [(⟨u11.pkt.to, u11.pkt.data⟩ : Pkt)].length) 24 (
      J14 (g8.1, g8.2.1, g8.2.2.1, g8.2.2.2.1, g8.2.2.2.2.1, g8.2.2.2.2.2.1, g8.2.2.2.2.2.2.1, g8.2.2.2.2.2.2.2.1 ++ [(⟨u11.pkt.to, u11.pkt.data⟩ : Pkt)], g8.2.2.2.2.2.2.2.2.1, ())))
    else (
      At g8.2.2.1 g8.1 fun u12 =>
      Room (g8.2.2.2.2.2.2.2.2.1.length + [(⟨⟨u12.pkt.to, u12.pkt.data⟩, u12.due⟩ : Flt)].length) 32 (
      J14 (g8.1, g8.2.1, g8.2.2.1, g8.2.2.2.1, g8.2.2.2.2.1, g8.2.2.2.2.2.1, g8.2.2.2.2.2.2.1, g8.2.2.2.2.2.2.2.1, g8.2.2.2.2.2.2.2.2.1 ++ [(⟨⟨u12.pkt.to, u12.pkt.data⟩, u12.due⟩ : Flt)], ()))))
    else (
      K (.tu [.ag [.int .i64 g8.2.2.2.2.2.1, .sl false .flt g8.2.2.2.2.2.2.2.2.1, .sl false .i64 g8.2.2.2.2.2.2.1], .sl false .pkt g8.2.2.2.2.2.2.2.1, .int .i64 0]) [])) (0, g.1, g.2.1, g.2.2.1, 0, IntKind.i64.wrap (g.1 + 1), g.2.2.1, [], [], ())))
theorem F20_eq (g : prodL L20) (K X : Kn) : F20 g K = dfun D (gamX [] [(15, true, sp15)]) (isRaw []) H20 J20 61 [.cell 2 25, .tmp 3, .tmp 4] (codeOf Try.f20) (argsT S20 L20 g) [] (settle0 K) X := by kernel_rfl
theorem F20_ok (g : prodL L20) (K X : Kn) (h : F20 g K) : FCalls Try.prog 20 (argsT S20 L20 g) [] K X :=
  FCalls.settle0 (dfun_sound (Γ := gamX [] [(15, true, sp15)]) (mu := isRaw []) (H := H20) (J := J20) D_ok (gamX_ok (rs := []) (l := [(15, true, sp15)]) (fun p hp => by cases hp) (by intro p hp; simp only [List.mem_cons, List.not_mem_nil, or_false] at hp; subst hp; exact sp15_ok)) gamX_det rfl Try.func20 (c := codeOf Try.f20) rfl Try.ntmps20 Try.results20 (by unfold enters; rw [Try.func20]; kernel_rfl) (Nat.le_of_ble_eq_true (by kernel_rfl)) (X := X) (c0 := 0) (by rw [F20_eq g K X] at h; exact h))
end Go.Proofs.Ythjikjhddddplaa
