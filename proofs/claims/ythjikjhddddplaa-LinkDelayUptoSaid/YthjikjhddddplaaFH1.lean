/- What functions come to: printed by exf.py. -/
import Derived.Test.YthjikjhddddplaaFG
namespace Go.Proofs.Ythjikjhddddplaa
set_option linter.unusedVariables false
set_option linter.unusedSimpArgs false
open Go.RowKit
/-- quilt/link.Step$1 -/
def H33 : List (Nat × Hint) := []
def J33 : List (Nat × Hint) := [(4, ⟨[], [(5, .leaf)], [.cells [.leaf, .leaf, .leaf], .cells [.oa .pkt 2], .arr .pkt], [.bool, .int .i64, .sl .flt, .sl .i64, .sl .pkt]⟩)]
abbrev S33 : List Sh := [.ag [.leaf, .leaf, .leaf], .pt 0 0, .pt 1 0]
abbrev L33 : List Lf := [.int .i64, .str, .int .i64, .int .i64, .sl .flt, .sl .i64, .sl .pkt]
abbrev O33 : List ObSh := [.cells [.leaf, .leaf, .leaf], .cells [.oa .pkt 2], .arr .pkt]
def F33 (g : prodL L33) (K : Kn) : Prop :=
  let J2 : prodL [.bool, .int .i64, .sl .flt, .sl .i64, .sl .pkt] → Prop := fun g1 => (
    K (.bool g1.1) [some (.cells [.int .i64 g1.2.1, .sl false .flt g1.2.2.1, .sl false .i64 g1.2.2.2.1]), some (.cells [.oa .pkt 2 0]), some (.arr 0 .pkt g1.2.2.2.2.1)]);
  bif decide (g.2.2.1 ≤ g.2.2.2.1) then (
    Room (g.2.2.2.2.2.2.1.length + [(⟨g.1, g.2.1⟩ : Pkt)].length) 24 (
    J2 (decide (g.2.2.1 ≤ g.2.2.2.1), g.2.2.2.1, g.2.2.2.2.1, g.2.2.2.2.2.1, g.2.2.2.2.2.2.1 ++ [(⟨g.1, g.2.1⟩ : Pkt)], ())))
  else (
    J2 (decide (g.2.2.1 ≤ g.2.2.2.1), g.2.2.2.1, g.2.2.2.2.1, g.2.2.2.2.2.1, g.2.2.2.2.2.2.1, ()))
theorem F33_eq (g : prodL L33) (K X : Kn) : F33 g K = dfun D (gamX [] []) (isRaw []) H33 J33 18 [.tmp 4] (codeOf Try.f33) (argsT S33 L33 g) (storeT S33 O33 L33 g) (settleD (storeT S33 O33 L33 g).length 0 K) X 0 := by kernel_rfl
theorem F33_ok (g : prodL L33) (K X : Kn) (h : F33 g K) : FCalls Try.prog 33 (argsT S33 L33 g) (storeT S33 O33 L33 g) K X 0 :=
  FCalls.settleD (dfun_sound (Γ := gamX [] []) (mu := isRaw []) (H := H33) (J := J33) D_ok (gamX_ok (rs := []) (l := []) (fun p hp => by cases hp) (fun p hp => by cases hp)) gamX_det rfl Try.func33 (c := codeOf Try.f33) rfl Try.ntmps33 Try.results33 (by unfold enters; rw [Try.func33]; kernel_rfl) (Nat.le_of_ble_eq_true (by kernel_rfl)) (X := X) (c0 := 0) (by rw [F33_eq g K X] at h; exact h))
def rw33 : Raw := ⟨S33, O33, L33, 0, fun g K _ => F33 g K⟩
theorem rw33_ok : rw33.Ok Try.prog 33 := fun g K X h => F33_ok g K X h
/-- slices.IndexFunc[[]quilt/api.Flight,quilt/api.Flight] -/
def H35 : List (Nat × Hint) := [(2, ⟨[((1, [1, 0]), some .pkt)], [(0, .oa .flt 0), (1, .fn 33 [] [.pt 1 0, .pt 2 0]), (7, .leaf), (8, .leaf)], [.arr .flt, .cells [.leaf, .leaf, .leaf], .cells [.oa .pkt 3], .arr .pkt], [.int .i64, .int .i64, .sl .flt, .int .i64, .sl .flt, .sl .i64, .sl .pkt]⟩)]
def J35 : List (Nat × Hint) := []
abbrev S35 : List Sh := [.oa .flt 0, .fn 33 [] [.pt 1 0, .pt 2 0]]
abbrev L35 : List Lf := [.sl .flt, .int .i64, .sl .flt, .sl .i64]
abbrev O35 : List ObSh := [.arr .flt, .cells [.leaf, .leaf, .leaf], .cells [.nil]]
def F35 (g : prodL L35) (K : Kn) : Prop :=
  LoopW (γ := prodL [.int .i64, .int .i64, .sl .flt, .int .i64, .sl .flt, .sl .i64, .sl .pkt]) (fun W2 g1 =>
    bif decide (g1.2.1 < g1.1) then (
      0 ≤ g1.2.1 ∧ g1.2.1.toNat < g1.2.2.1.length ∧
    atI g1.2.2.1 g1.2.1.toNat fun x3 =>
    let g4 : prodL [.int .i64, .str, .int .i64, .int .i64, .sl .flt, .sl .i64, .sl .pkt] := (x3.pkt.to, x3.pkt.data, x3.due, g1.2.2.2.1, g1.2.2.2.2.1, g1.2.2.2.2.2.1, g1.2.2.2.2.2.2.1, ());
    let J6 : prodL [.bool, .int .i64, .sl .flt, .sl .i64, .sl .pkt] → Prop := fun g5 => (
      bif g5.1 then (
      K (.int .i64 g1.2.1) [some (.arr 0 .flt g1.2.2.1), some (.cells [.int .i64 g5.2.1, .sl false .flt g5.2.2.1, .sl false .i64 g5.2.2.2.1]), some (.cells [.oa .pkt 3 0]), some (.arr 0 .pkt g5.2.2.2.2.1)])
    else (
      W2 (g1.1, IntKind.i64.wrap (g1.2.1 + 1), g1.2.2.1, g5.2.1, g5.2.2.1, g5.2.2.2.1, g5.2.2.2.2.1, ())));
    bif decide (g4.2.2.1 ≤ g4.2.2.2.1) then (
      Room (g4.2.2.2.2.2.2.1.length + [(⟨g4.1, g4.2.1⟩ : Pkt)].length) 24 (
      J6 (decide (g4.2.2.1 ≤ g4.2.2.2.1), g4.2.2.2.1, g4.2.2.2.2.1, g4.2.2.2.2.2.1, g4.2.2.2.2.2.2.1 ++ [(⟨g4.1, g4.2.1⟩ : Pkt)], ())))
    else (
      J6 (decide (g4.2.2.1 ≤ g4.2.2.2.1), g4.2.2.2.1, g4.2.2.2.2.1, g4.2.2.2.2.2.1, g4.2.2.2.2.2.2.1, ())))
    else (
      K (.int .i64 (-1)) [some (.arr 0 .flt g1.2.2.1), some (.cells [.int .i64 g1.2.2.2.1, .sl false .flt g1.2.2.2.2.1, .sl false .i64 g1.2.2.2.2.2.1]), some (.cells [.oa .pkt 3 0]), some (.arr 0 .pkt g1.2.2.2.2.2.2.1)])) ((g.1.length : Int), 0, g.1, g.2.1, g.2.2.1, g.2.2.2.1, [], ())
theorem F35_eq (g : prodL L35) (K X : Kn) : F35 g K = dfun D (gamX [(33, rw33)] []) (isRaw [(33, rw33)]) H35 J35 19 [.tmp 4] (codeOf Try.f35) (argsT S35 L35 g) (storeT S35 O35 L35 g) (settleD (storeT S35 O35 L35 g).length 1 K) X 1 := by kernel_rfl
theorem F35_ok (g : prodL L35) (K X : Kn) (h : F35 g K) : FCalls Try.prog 35 (argsT S35 L35 g) (storeT S35 O35 L35 g) K X 1 :=
  FCalls.settleD (dfun_sound (Γ := gamX [(33, rw33)] []) (mu := isRaw [(33, rw33)]) (H := H35) (J := J35) D_ok (gamX_ok (rs := [(33, rw33)]) (l := []) (by intro p hp; simp only [List.mem_cons, List.not_mem_nil, or_false] at hp; subst hp; exact rw33_ok) (fun p hp => by cases hp)) gamX_det rfl Try.func35 (c := codeOf Try.f35) rfl Try.ntmps35 Try.results35 (by unfold enters; rw [Try.func35]; kernel_rfl) (Nat.le_of_ble_eq_true (by kernel_rfl)) (X := X) (c0 := 1) (by rw [F35_eq g K X] at h; exact h))
def rw35 : Raw := ⟨S35, O35, L35, 1, fun g K _ => F35 g K⟩
theorem rw35_ok : rw35.Ok Try.prog 35 := fun g K X h => F35_ok g K X h
/-- slices.DeleteFunc[[]quilt/api.Flight,quilt/api.Flight] -/
def H32 : List (Nat × Hint) := [(5, ⟨[((1, [1, 0]), none)], [(0, .oa .flt 0), (1, .fn 33 [] [.pt 1 0, .pt 2 0]), (5, .leaf), (6, .leaf)], [.arr .flt, .cells [.leaf, .leaf, .leaf], .cells [.oa .pkt 3], .arr .pkt], [.int .i64, .int .i64, .sl .flt, .int .i64, .sl .flt, .sl .i64, .sl .pkt]⟩)]
def J32 : List (Nat × Hint) := [(2, ⟨[((1, [1, 0]), none)], [(0, .oa .flt 0), (1, .fn 33 [] [.pt 1 0, .pt 2 0]), (5, .leaf)], [.arr .flt, .cells [.leaf, .leaf, .leaf], .cells [.oa .pkt 3], .arr .pkt], [.int .i64, .sl .flt, .int .i64, .sl .flt, .sl .i64, .sl .pkt]⟩), (6, ⟨[((1, [1, 0]), none)], [(0, .oa .flt 0), (1, .fn 33 [] [.pt 1 0, .pt 2 0]), (5, .leaf), (6, .leaf)], [.arr .flt, .cells [.leaf, .leaf, .leaf], .cells [.oa .pkt 3], .arr .pkt], [.int .i64, .int .i64, .sl .flt, .int .i64, .sl .flt, .sl .i64, .sl .pkt]⟩)]
abbrev S32 : List Sh := [.oa .flt 0, .fn 33 [] [.pt 1 0, .pt 2 0]]
abbrev L32 : List Lf := [.sl .flt, .int .i64, .sl .flt, .sl .i64]
abbrev O32 : List ObSh := [.arr .flt, .cells [.leaf, .leaf, .leaf], .cells [.nil]]
def F32 (g : prodL L32) (K : Kn) : Prop :=
  let J18 : prodL [.int .i64, .sl .flt, .int .i64, .sl .flt, .sl .i64, .sl .pkt] → Prop := fun g8 => (
    bif decide (g8.1 = (-1)) then (
      K (.oa .flt 0 0) [some (.arr 0 .flt g8.2.1), some (.cells [.int .i64 g8.2.2.1, .sl false .flt g8.2.2.2.1, .sl false .i64 g8.2.2.2.2.1]), some (.cells [.oa .pkt 3 0]), some (.arr 0 .pkt g8.2.2.2.2.2.1)])
    else (
      LoopW (γ := prodL [.int .i64, .int .i64, .sl .flt, .int .i64, .sl .flt, .sl .i64, .sl .pkt]) (fun W10 g9 =>
      bif decide (g9.2.1 < (g9.2.2.1.length : Int)) then (
        let J17 : prodL [.int .i64, .int .i64, .sl .flt, .int .i64, .sl .flt, .sl .i64, .sl .pkt] → Prop := fun g16 => (
        W10 (g16.1, IntKind.i64.wrap (g16.2.1 + 1), g16.2.2.1, g16.2.2.2.1, g16.2.2.2.2.1, g16.2.2.2.2.2.1, g16.2.2.2.2.2.2.1, ()));
      0 ≤ g9.2.1 ∧ g9.2.1.toNat < g9.2.2.1.length ∧
      atI g9.2.2.1 g9.2.1.toNat fun x11 =>
      let g12 : prodL [.int .i64, .str, .int .i64, .int .i64, .sl .flt, .sl .i64, .sl .pkt] := (x11.pkt.to, x11.pkt.data, x11.due, g9.2.2.2.1, g9.2.2.2.2.1, g9.2.2.2.2.2.1, g9.2.2.2.2.2.2.1, ());
      let J14 : prodL [.bool, .int .i64, .sl .flt, .sl .i64, .sl .pkt] → Prop := fun g13 => (
        bif !g13.1 then (
        0 ≤ g9.1 ∧ g9.1.toNat < g9.2.2.1.length ∧
        atI g9.2.2.1 g9.1.toNat fun x15 =>
        J17 (IntKind.i64.wrap (g9.1 + 1), g9.2.1, g9.2.2.1.set g9.1.toNat (⟨⟨x11.pkt.to, x11.pkt.data⟩, x11.due⟩ : Flt), g13.2.1, g13.2.2.1, g13.2.2.2.1, g13.2.2.2.2.1, ()))
      else (
        J17 (g9.1, g9.2.1, g9.2.2.1, g13.2.1, g13.2.2.1, g13.2.2.2.1, g13.2.2.2.2.1, ())));
      bif decide (g12.2.2.1 ≤ g12.2.2.2.1) then (
        Room (g12.2.2.2.2.2.2.1.length + [(⟨g12.1, g12.2.1⟩ : Pkt)].length) 24 (
        J14 (decide (g12.2.2.1 ≤ g12.2.2.2.1), g12.2.2.2.1, g12.2.2.2.2.1, g12.2.2.2.2.2.1, g12.2.2.2.2.2.2.1 ++ [(⟨g12.1, g12.2.1⟩ : Pkt)], ())))
      else (
        J14 (decide (g12.2.2.1 ≤ g12.2.2.2.1), g12.2.2.2.1, g12.2.2.2.2.1, g12.2.2.2.2.2.1, g12.2.2.2.2.2.2.1, ())))
      else (
        (0 : Int) ≤ g9.1 ∧ g9.1 ≤ (g9.2.2.1.length : Int) ∧ (g9.2.2.1.length : Int) ≤ (g9.2.2.1.length : Int) ∧
    (0 : Int) ≤ 0 ∧ 0 ≤ g9.1 ∧ g9.1 ≤ ((clearAt g9.2.2.1 g9.1.toNat ((g9.2.2.1.length : Int).toNat - g9.1.toNat) (⟨⟨0, (⟨#[]⟩)⟩, 0⟩ : Flt)).length : Int) ∧
    K (.os .flt 0 0 ((0 : Int).toNat) (g9.1.toNat - (0 : Int).toNat)) [some (.arr 0 .flt (clearAt g9.2.2.1 g9.1.toNat ((g9.2.2.1.length : Int).toNat - g9.1.toNat) (⟨⟨0, (⟨#[]⟩)⟩, 0⟩ : Flt))), some (.cells [.int .i64 g9.2.2.2.1, .sl false .flt g9.2.2.2.2.1, .sl false .i64 g9.2.2.2.2.2.1]), some (.cells [.oa .pkt 3 0]), some (.arr 0 .pkt g9.2.2.2.2.2.2.1)])) (g8.1, IntKind.i64.wrap (g8.1 + 1), g8.2.1, g8.2.2.1, g8.2.2.2.1, g8.2.2.2.2.1, g8.2.2.2.2.2.1, ())));
  let g1 : prodL [.sl .flt, .int .i64, .sl .flt, .sl .i64] := (g.1, g.2.1, g.2.2.1, g.2.2.2.1, ());
  LoopW (γ := prodL [.int .i64, .int .i64, .sl .flt, .int .i64, .sl .flt, .sl .i64, .sl .pkt]) (fun W3 g2 =>
    bif decide (g2.2.1 < g2.1) then (
      0 ≤ g2.2.1 ∧ g2.2.1.toNat < g2.2.2.1.length ∧
    atI g2.2.2.1 g2.2.1.toNat fun x4 =>
    let g5 : prodL [.int .i64, .str, .int .i64, .int .i64, .sl .flt, .sl .i64, .sl .pkt] := (x4.pkt.to, x4.pkt.data, x4.due, g2.2.2.2.1, g2.2.2.2.2.1, g2.2.2.2.2.2.1, g2.2.2.2.2.2.2.1, ());
    let J7 : prodL [.bool, .int .i64, .sl .flt, .sl .i64, .sl .pkt] → Prop := fun g6 => (
      bif g6.1 then (
      J18 (g2.2.1, g2.2.2.1, g6.2.1, g6.2.2.1, g6.2.2.2.1, g6.2.2.2.2.1, ()))
    else (
      W3 (g2.1, IntKind.i64.wrap (g2.2.1 + 1), g2.2.2.1, g6.2.1, g6.2.2.1, g6.2.2.2.1, g6.2.2.2.2.1, ())));
    bif decide (g5.2.2.1 ≤ g5.2.2.2.1) then (
      Room (g5.2.2.2.2.2.2.1.length + [(⟨g5.1, g5.2.1⟩ : Pkt)].length) 24 (
      J7 (decide (g5.2.2.1 ≤ g5.2.2.2.1), g5.2.2.2.1, g5.2.2.2.2.1, g5.2.2.2.2.2.1, g5.2.2.2.2.2.2.1 ++ [(⟨g5.1, g5.2.1⟩ : Pkt)], ())))
    else (
      J7 (decide (g5.2.2.1 ≤ g5.2.2.2.1), g5.2.2.2.1, g5.2.2.2.2.1, g5.2.2.2.2.2.1, g5.2.2.2.2.2.2.1, ())))
    else (
      J18 ((-1), g2.2.2.1, g2.2.2.2.1, g2.2.2.2.2.1, g2.2.2.2.2.2.1, g2.2.2.2.2.2.2.1, ()))) ((g1.1.length : Int), 0, g1.1, g1.2.1, g1.2.2.1, g1.2.2.2.1, [], ())
theorem F32_eq (g : prodL L32) (K X : Kn) : F32 g K = dfun D (gamX [(33, rw33), (35, rw35)] []) (isRaw [(33, rw33), (35, rw35)]) H32 J32 42 [.tmp 4] (codeOf Try.f32) (argsT S32 L32 g) (storeT S32 O32 L32 g) (settleD (storeT S32 O32 L32 g).length 1 K) X 1 := by kernel_rfl
theorem F32_ok (g : prodL L32) (K X : Kn) (h : F32 g K) : FCalls Try.prog 32 (argsT S32 L32 g) (storeT S32 O32 L32 g) K X 1 :=
  FCalls.settleD (dfun_sound (Γ := gamX [(33, rw33), (35, rw35)] []) (mu := isRaw [(33, rw33), (35, rw35)]) (H := H32) (J := J32) D_ok (gamX_ok (rs := [(33, rw33), (35, rw35)]) (l := []) (by intro p hp; simp only [List.mem_cons, List.not_mem_nil, or_false] at hp; rcases hp with rfl | rfl <;> first | exact rw33_ok | exact rw35_ok) (fun p hp => by cases hp)) gamX_det rfl Try.func32 (c := codeOf Try.f32) rfl Try.ntmps32 Try.results32 (by unfold enters; rw [Try.func32]; kernel_rfl) (Nat.le_of_ble_eq_true (by kernel_rfl)) (X := X) (c0 := 1) (by rw [F32_eq g K X] at h; exact h))
def rw32 : Raw := ⟨S32, O32, L32, 1, fun g K _ => F32 g K⟩
theorem rw32_ok : rw32.Ok Try.prog 32 := fun g K X h => F32_ok g K X h
/-- quilt/link.Step -/
def H19 : List (Nat × Hint) := []
def J19 : List (Nat × Hint) := [(8, ⟨[((1, []), none), ((2, []), none), ((5, []), none), ((5, [0]), none)], [(1, .pt 0 0), (2, .pt 1 0), (5, .pt 2 0)], [.cells [.leaf, .leaf, .leaf], .cells [.leaf, .nil, .nil], .cells [.oa .pkt 3], .arr .pkt], [.int .i64, .sl .flt, .sl .i64, .int .i64, .sl .pkt]⟩)]
abbrev S19 : List Sh := [.ag [.leaf, .leaf, .leaf]]
abbrev L19 : List Lf := [.int .i64, .sl .flt, .sl .i64]
def F19 (g : prodL L19) (K : Kn) : Prop :=
  sp14.pre (g.1, g.2.1, g.2.2.1, ()) ∧
  bif !decide (Lnk.err ⟨g.1, g.2.1, g.2.2.1⟩ = 0) then (
    K (.tu [.ag [.int .i64 0, .nil, .nil], .nil, .int .i64 1]) [])
  else (
    bif decide (g.1 = 1099511627776) then (
    K (.tu [.ag [.int .i64 0, .nil, .nil], .nil, .int .i64 4]) [])
  else (
    let J21 : prodL [.int .i64, .sl .flt, .sl .i64, .int .i64, .sl .pkt] → Prop := fun g20 => (
    K (.tu [.ag [.int .i64 g20.1, .sl false .flt g20.2.1, .sl false .i64 g20.2.2.1], .sl false .pkt g20.2.2.2.2.1, .int .i64 0]) []);
  sp27.pre (g.2.1, ()) ∧
  let g1 : prodL [.sl .flt, .int .i64, .sl .flt, .sl .i64] := (g.2.1, IntKind.i64.wrap (g.1 + 1), g.2.1, g.2.2.1, ());
  let J19 : prodL [.int .i64, .sl .flt, .int .i64, .sl .flt, .sl .i64, .sl .pkt] → Prop := fun g9 => (
    bif decide (g9.1 = (-1)) then (
      J21 (g9.2.2.1, g9.2.1, g9.2.2.2.2.1, 0, g9.2.2.2.2.2.1, ()))
    else (
      LoopW (γ := prodL [.int .i64, .int .i64, .sl .flt, .int .i64, .sl .flt, .sl .i64, .sl .pkt]) (fun W11 g10 =>
      bif decide (g10.2.1 < (g10.2.2.1.length : Int)) then (
        let J18 : prodL [.int .i64, .int .i64, .sl .flt, .int .i64, .sl .flt, .sl .i64, .sl .pkt] → Prop := fun g17 => (
        W11 (g17.1, IntKind.i64.wrap (g17.2.1 + 1), g17.2.2.1, g17.2.2.2.1, g17.2.2.2.2.1, g17.2.2.2.2.2.1, g17.2.2.2.2.2.2.1, ()));
      0 ≤ g10.2.1 ∧ g10.2.1.toNat < g10.2.2.1.length ∧
      atI g10.2.2.1 g10.2.1.toNat fun x12 =>
      let g13 : prodL [.int .i64, .str, .int .i64, .int .i64, .sl .flt, .sl .i64, .sl .pkt] := (x12.pkt.to, x12.pkt.data, x12.due, g10.2.2.2.1, g10.2.2.2.2.1, g10.2.2.2.2.2.1, g10.2.2.2.2.2.2.1, ());
      let J15 : prodL [.bool, .int .i64, .sl .flt, .sl .i64, .sl .pkt] → Prop := fun g14 => (
        bif !g14.1 then (
        0 ≤ g10.1 ∧ g10.1.toNat < g10.2.2.1.length ∧
        atI g10.2.2.1 g10.1.toNat fun x16 =>
        J18 (IntKind.i64.wrap (g10.1 + 1), g10.2.1, g10.2.2.1.set g10.1.toNat (⟨⟨x12.pkt.to, x12.pkt.data⟩, x12.due⟩ : Flt), g14.2.1, g14.2.2.1, g14.2.2.2.1, g14.2.2.2.2.1, ()))
      else (
        J18 (g10.1, g10.2.1, g10.2.2.1, g14.2.1, g14.2.2.1, g14.2.2.2.1, g14.2.2.2.2.1, ())));
      bif decide (g13.2.2.1 ≤ g13.2.2.2.1) then (
        Room (g13.2.2.2.2.2.2.1.length + [(⟨g13.1, g13.2.1⟩ : Pkt)].length) 24 (
        J15 (decide (g13.2.2.1 ≤ g13.2.2.2.1), g13.2.2.2.1, g13.2.2.2.2.1, g13.2.2.2.2.2.1, g13.2.2.2.2.2.2.1 ++ [(⟨g13.1, g13.2.1⟩ : Pkt)], ())))
      else (
        J15 (decide (g13.2.2.1 ≤ g13.2.2.2.1), g13.2.2.2.1, g13.2.2.2.2.1, g13.2.2.2.2.2.1, g13.2.2.2.2.2.2.1, ())))
      else (
        (0 : Int) ≤ g10.1 ∧ g10.1 ≤ (g10.2.2.1.length : Int) ∧ (g10.2.2.1.length : Int) ≤ (g10.2.2.1.length : Int) ∧
    (0 : Int) ≤ 0 ∧ 0 ≤ g10.1 ∧ g10.1 ≤ ((clearAt g10.2.2.1 g10.1.toNat ((g10.2.2.1.length : Int).toNat - g10.1.toNat) (⟨⟨0, (⟨#[]⟩)⟩, 0⟩ : Flt)).length : Int) ∧
    J21 (g10.2.2.2.1, ((clearAt g10.2.2.1 g10.1.toNat ((g10.2.2.1.length : Int).toNat - g10.1.toNat) (⟨⟨0, (⟨#[]⟩)⟩, 0⟩ : Flt)).drop ((0 : Int).toNat)).take (g10.1.toNat - (0 : Int).toNat), g10.2.2.2.2.2.1, 0, g10.2.2.2.2.2.2.1, ()))) (g9.1, IntKind.i64.wrap (g9.1 + 1), g9.2.1, g9.2.2.1, g9.2.2.2.1, g9.2.2.2.2.1, g9.2.2.2.2.2.1, ())));
  let g2 : prodL [.sl .flt, .int .i64, .sl .flt, .sl .i64] := (g1.1, g1.2.1, g1.2.2.1, g1.2.2.2.1, ());
  LoopW (γ := prodL [.int .i64, .int .i64, .sl .flt, .int .i64, .sl .flt, .sl .i64, .sl .pkt]) (fun W4 g3 =>
    bif decide (g3.2.1 < g3.1) then (
      0 ≤ g3.2.1 ∧ g3.2.1.toNat < g3.2.2.1.length ∧
    atI g3.2.2.1 g3.2.1.toNat fun x5 =>
    let g6 : prodL [.int .i64, .str, .int .i64, .int .i64, .sl .flt, .sl .i64, .sl .pkt] := (x5.pkt.to, x5.pkt.data, x5.due, g3.2.2.2.1, g3.2.2.2.2.1, g3.2.2.2.2.2.1, g3.2.2.2.2.2.2.1, ());
    let J8 : prodL [.bool, .int .i64, .sl .flt, .sl .i64, .sl .pkt] → Prop := fun g7 => (
      bif g7.1 then (
      J19 (g3.2.1, g3.2.2.1, g7.2.1, g7.2.2.1, g7.2.2.2.1, g7.2.2.2.2.1, ()))
    else (
      W4 (g3.1, IntKind.i64.wrap (g3.2.1 + 1), g3.2.2.1, g7.2.1, g7.2.2.1, g7.2.2.2.1, g7.2.2.2.2.1, ())));
    bif decide (g6.2.2.1 ≤ g6.2.2.2.1) then (
      Room (g6.2.2.2.2.2.2.1.length + [(⟨g6.1, g6.2.1⟩ : Pkt)].length) 24 (
      J8 (decide (g6.2.2.1 ≤ g6.2.2.2.1), g6.2.2.2.1, g6.2.2.2.2.1, g6.2.2.2.2.2.1, g6.2.2.2.2.2.2.1 ++ [(⟨g6.1, g6.2.1⟩ : Pkt)], ())))
    else (
      J8 (decide (g6.2.2.1 ≤ g6.2.2.2.1), g6.2.2.2.1, g6.2.2.2.2.1, g6.2.2.2.2.2.1, g6.2.2.2.2.2.2.1, ())))
    else (
      J19 ((-1), g3.2.2.1, g3.2.2.2.1, g3.2.2.2.2.1, g3.2.2.2.2.2.1, g3.2.2.2.2.2.2.1, ()))) ((g2.1.length : Int), 0, g2.1, g2.2.1, g2.2.2.1, g2.2.2.2.1, [], ())))
theorem F19_eq (g : prodL L19) (K X : Kn) : F19 g K = dfun D (gamX [(32, rw32)] [(14, true, sp14), (27, false, sp27)]) (isRaw [(32, rw32)]) H19 J19 26 [.cell 2 25, .tmp 3, .tmp 4] (codeOf Try.f19) (argsT S19 L19 g) [] (settle0 K) X := by kernel_rfl
theorem F19_ok (g : prodL L19) (K X : Kn) (h : F19 g K) : FCalls Try.prog 19 (argsT S19 L19 g) [] K X :=
  FCalls.settle0 (dfun_sound (Γ := gamX [(32, rw32)] [(14, true, sp14), (27, false, sp27)]) (mu := isRaw [(32, rw32)]) (H := H19) (J := J19) D_ok (gamX_ok (rs := [(32, rw32)]) (l := [(14, true, sp14), (27, false, sp27)]) (by intro p hp; simp only [List.mem_cons, List.not_mem_nil, or_false] at hp; subst hp; exact rw32_ok) (by intro p hp; simp only [List.mem_cons, List.not_mem_nil, or_false] at hp; rcases hp with rfl | rfl <;> first | exact sp14_ok | exact sp27_ok)) gamX_det rfl Try.func19 (c := codeOf Try.f19) rfl Try.ntmps19 Try.results19 (by unfold enters; rw [Try.func19]; kernel_rfl) (Nat.le_of_ble_eq_true (by kernel_rfl)) (X := X) (c0 := 0) (by rw [F19_eq g K X] at h; exact h))
end Go.Proofs.Ythjikjhddddplaa
