/- What functions come to: printed by exf.py. -/
import Derived.Test.YtoclmkbjgmgekaaDoorP9
namespace Go.Proofs.YtoclmkbjgmgekaaDoor
set_option linter.unusedVariables false
set_option linter.unusedSimpArgs false
set_option linter.unusedSectionVars false
open Go.RowKit
attribute [local irreducible] dfun dround
/-- quilt/quiltlaw50.ProtoEncode -/
def H6 : List (Nat × Hint) := []
def J6 : List (Nat × Hint) := []
abbrev S6 : List Sh := [.ag [.leaf, .leaf, .leaf, .leaf, .leaf, .leaf, .leaf, .leaf, .leaf, .leaf, .leaf, .leaf]]
abbrev L6 : List Lf := [.int .i64, .str, .sl .dig, .sl .rng, .sl .str, .sl .str, .int .i64, .str, .int .i64, .sl .dig, .sl .dig, .sl .dig]
def F6 (g : prodL L6) (K : Kn) : Prop :=
  sp15.pre (g.1, g.2.1, g.2.2.1, g.2.2.2.1, g.2.2.2.2.1, g.2.2.2.2.2.1, g.2.2.2.2.2.2.1, g.2.2.2.2.2.2.2.1, g.2.2.2.2.2.2.2.2.1, g.2.2.2.2.2.2.2.2.2.1, g.2.2.2.2.2.2.2.2.2.2.1, g.2.2.2.2.2.2.2.2.2.2.2.1, ()) ∧
  bif greatB (⟨g.1, g.2.1, g.2.2.1, g.2.2.2.1, g.2.2.2.2.1, g.2.2.2.2.2.1, g.2.2.2.2.2.2.1, g.2.2.2.2.2.2.2.1, ⟨g.2.2.2.2.2.2.2.2.1, g.2.2.2.2.2.2.2.2.2.1, g.2.2.2.2.2.2.2.2.2.2.1, g.2.2.2.2.2.2.2.2.2.2.2.1⟩⟩ : Msg) then (
    sp11.pre (()) ∧
    K (.bool true) [])
  else (
    sp16.pre (g.1, g.2.1, g.2.2.1, g.2.2.2.1, g.2.2.2.2.1, g.2.2.2.2.2.1, g.2.2.2.2.2.2.1, g.2.2.2.2.2.2.2.1, g.2.2.2.2.2.2.2.2.1, g.2.2.2.2.2.2.2.2.2.1, g.2.2.2.2.2.2.2.2.2.2.1, g.2.2.2.2.2.2.2.2.2.2.2.1, ()) ∧
  sp18.pre (g.1, g.2.1, g.2.2.1, g.2.2.2.1, g.2.2.2.2.1, g.2.2.2.2.2.1, g.2.2.2.2.2.2.1, g.2.2.2.2.2.2.2.1, g.2.2.2.2.2.2.2.2.1, g.2.2.2.2.2.2.2.2.2.1, g.2.2.2.2.2.2.2.2.2.2.1, g.2.2.2.2.2.2.2.2.2.2.2.1, ()) ∧
  bif decide ((chk (⟨g.1, g.2.1, g.2.2.1, g.2.2.2.1, g.2.2.2.2.1, g.2.2.2.2.2.1, g.2.2.2.2.2.2.1, g.2.2.2.2.2.2.2.1, ⟨g.2.2.2.2.2.2.2.2.1, g.2.2.2.2.2.2.2.2.2.1, g.2.2.2.2.2.2.2.2.2.2.1, g.2.2.2.2.2.2.2.2.2.2.2.1⟩⟩ : Msg)).1 = (chk (⟨g.1, g.2.1, g.2.2.1, g.2.2.2.1, g.2.2.2.2.1, g.2.2.2.2.2.1, g.2.2.2.2.2.2.1, g.2.2.2.2.2.2.2.1, ⟨g.2.2.2.2.2.2.2.2.1, g.2.2.2.2.2.2.2.2.2.1, g.2.2.2.2.2.2.2.2.2.2.1, g.2.2.2.2.2.2.2.2.2.2.2.1⟩⟩ : Msg)).1) then (
    bif decide ((chk (⟨g.1, g.2.1, g.2.2.1, g.2.2.2.1, g.2.2.2.2.1, g.2.2.2.2.2.1, g.2.2.2.2.2.2.1, g.2.2.2.2.2.2.2.1, ⟨g.2.2.2.2.2.2.2.2.1, g.2.2.2.2.2.2.2.2.2.1, g.2.2.2.2.2.2.2.2.2.2.1, g.2.2.2.2.2.2.2.2.2.2.2.1⟩⟩ : Msg)).2 = (chk (⟨g.1, g.2.1, g.2.2.1, g.2.2.2.1, g.2.2.2.2.1, g.2.2.2.2.2.1, g.2.2.2.2.2.2.1, g.2.2.2.2.2.2.2.1, ⟨g.2.2.2.2.2.2.2.2.1, g.2.2.2.2.2.2.2.2.2.1, g.2.2.2.2.2.2.2.2.2.2.1, g.2.2.2.2.2.2.2.2.2.2.2.1⟩⟩ : Msg)).2) then (
      sp19.pre (g.1, g.2.1, g.2.2.1, g.2.2.2.1, g.2.2.2.2.1, g.2.2.2.2.2.1, g.2.2.2.2.2.2.1, g.2.2.2.2.2.2.2.1, g.2.2.2.2.2.2.2.2.1, g.2.2.2.2.2.2.2.2.2.1, g.2.2.2.2.2.2.2.2.2.2.1, g.2.2.2.2.2.2.2.2.2.2.2.1, ()) ∧
      sp20.pre (g.1, g.2.1, g.2.2.1, g.2.2.2.1, g.2.2.2.2.1, g.2.2.2.2.2.1, g.2.2.2.2.2.2.1, g.2.2.2.2.2.2.2.1, g.2.2.2.2.2.2.2.2.1, g.2.2.2.2.2.2.2.2.2.1, g.2.2.2.2.2.2.2.2.2.2.1, g.2.2.2.2.2.2.2.2.2.2.2.1, ()) ∧
      bif decide ((chk (⟨g.1, g.2.1, g.2.2.1, g.2.2.2.1, g.2.2.2.2.1, g.2.2.2.2.2.1, g.2.2.2.2.2.2.1, g.2.2.2.2.2.2.2.1, ⟨g.2.2.2.2.2.2.2.2.1, g.2.2.2.2.2.2.2.2.2.1, g.2.2.2.2.2.2.2.2.2.2.1, g.2.2.2.2.2.2.2.2.2.2.2.1⟩⟩ : Msg)).2 = (chk (⟨g.1, g.2.1, g.2.2.1, g.2.2.2.1, g.2.2.2.2.1, g.2.2.2.2.2.1, g.2.2.2.2.2.2.1, g.2.2.2.2.2.2.2.1, ⟨g.2.2.2.2.2.2.2.2.1, g.2.2.2.2.2.2.2.2.2.1, g.2.2.2.2.2.2.2.2.2.2.1, g.2.2.2.2.2.2.2.2.2.2.2.1⟩⟩ : Msg)).2) then (
        sp11.pre (()) ∧
        K (.bool true) [])
      else (
        K (.bool false) []))
    else (
      K (.bool false) []))
  else (
    K (.bool false) []))
theorem F6_eq (g : prodL L6) (K X : Kn) : F6 g K = dfun D (gamX [] [(11, true, sp11), (15, true, sp15), (16, true, sp16), (18, true, sp18), (19, true, sp19), (20, true, sp20)]) (isRaw []) H6 J6 38 [.tmp 2] (codeOf Tryd.f6) (argsT S6 L6 g) [] (settle0 K) X := by kernel_rfl
theorem F6_ok (g : prodL L6) (K X : Kn) (h : F6 g K) : FCalls Tryd.prog 6 (argsT S6 L6 g) [] K X :=
  FCalls.settle0 (dfun_sound (Γ := gamX [] [(11, true, sp11), (15, true, sp15), (16, true, sp16), (18, true, sp18), (19, true, sp19), (20, true, sp20)]) (mu := isRaw []) (H := H6) (J := J6) D_ok (gamX_ok (rs := []) (l := [(11, true, sp11), (15, true, sp15), (16, true, sp16), (18, true, sp18), (19, true, sp19), (20, true, sp20)]) (fun p hp => by cases hp) (by intro p hp; simp only [List.mem_cons, List.not_mem_nil, or_false] at hp; rcases hp with rfl | rfl | rfl | rfl | rfl | rfl <;> first | exact sp11_ok | exact sp15_ok | exact sp16_ok | exact sp18_ok | exact sp19_ok | exact sp20_ok)) gamX_det rfl Tryd.func6 (c := codeOf Tryd.f6) rfl Tryd.ntmps6 (rs := [.tmp 2]) Tryd.results6 (by unfold enters; rw [Tryd.func6]; kernel_rfl) (Nat.le_of_ble_eq_true (by kernel_rfl)) (X := X) (c0 := 0) (Eq.mp (F6_eq g K X) h))
/-- quilt/quiltlaw50.ProtoDifferent -/
def H4 : List (Nat × Hint) := []
def J4 : List (Nat × Hint) := [(2, ⟨[((2, []), none), ((3, []), none)], [(2, .pt 0 0), (3, .pt 1 0), (14, .leaf)], [.cells [.leaf, .leaf, .leaf, .leaf, .leaf, .leaf, .leaf, .leaf, .leaf, .leaf, .leaf, .leaf], .cells [.leaf, .leaf, .leaf, .leaf, .leaf, .leaf, .leaf, .leaf, .leaf, .leaf, .leaf, .leaf]], [.bool, .int .i64, .str, .sl .dig, .sl .rng, .sl .str, .sl .str, .int .i64, .str, .int .i64, .sl .dig, .sl .dig, .sl .dig, .int .i64, .str, .sl .dig, .sl .rng, .sl .str, .sl .str, .int .i64, .str, .int .i64, .sl .dig, .sl .dig, .sl .dig]⟩)]
abbrev S4 : List Sh := [.ag [.leaf, .leaf, .leaf, .leaf, .leaf, .leaf, .leaf, .leaf, .leaf, .leaf, .leaf, .leaf], .ag [.leaf, .leaf, .leaf, .leaf, .leaf, .leaf, .leaf, .leaf, .leaf, .leaf, .leaf, .leaf]]
abbrev L4 : List Lf := [.int .i64, .str, .sl .dig, .sl .rng, .sl .str, .sl .str, .int .i64, .str, .int .i64, .sl .dig, .sl .dig, .sl .dig, .int .i64, .str, .sl .dig, .sl .rng, .sl .str, .sl .str, .int .i64, .str, .int .i64, .sl .dig, .sl .dig, .sl .dig]
def F4_J2 (K : Kn) (t_1 : Bool) (a1_1 : Int) (a2_1 : ByteArray) (a3_1 : List Dig) (a4_1 : List Rng) (a5_1 : List ByteArray) (a6_1 : List ByteArray) (a7_1 : Int) (a8_1 : ByteArray) (a9_1 : Int) (a10_1 : List Dig) (a11_1 : List Dig) (a12_1 : List Dig) (b1_1 : Int) (b2_1 : ByteArray) (b3_1 : List Dig) (b4_1 : List Rng) (b5_1 : List ByteArray) (b6_1 : List ByteArray) (b7_1 : Int) (b8_1 : ByteArray) (b9_1 : Int) (b10_1 : List Dig) (b11_1 : List Dig) (b12_1 : List Dig) : Prop :=
  bif t_1 then (
    sp11.pre (()) ∧
    K (.bool true) [])
  else (
    sp16.pre (a1_1, a2_1, a3_1, a4_1, a5_1, a6_1, a7_1, a8_1, a9_1, a10_1, a11_1, a12_1, ()) ∧
  sp16.pre (b1_1, b2_1, b3_1, b4_1, b5_1, b6_1, b7_1, b8_1, b9_1, b10_1, b11_1, b12_1, ()) ∧
  bif !decide ((chk (⟨a1_1, a2_1, a3_1, a4_1, a5_1, a6_1, a7_1, a8_1, ⟨a9_1, a10_1, a11_1, a12_1⟩⟩ : Msg)).2 = 0) then (
    sp11.pre (()) ∧
    K (.bool true) [])
  else (
    bif !decide ((chk (⟨b1_1, b2_1, b3_1, b4_1, b5_1, b6_1, b7_1, b8_1, ⟨b9_1, b10_1, b11_1, b12_1⟩⟩ : Msg)).2 = 0) then (
      sp11.pre (()) ∧
      K (.bool true) [])
    else (
      sp17.pre (a1_1, a2_1, a3_1, a4_1, a5_1, a6_1, a7_1, a8_1, a9_1, a10_1, a11_1, a12_1, b1_1, b2_1, b3_1, b4_1, b5_1, b6_1, b7_1, b8_1, b9_1, b10_1, b11_1, b12_1, ()) ∧
      bif decide (decide ((chk (⟨a1_1, a2_1, a3_1, a4_1, a5_1, a6_1, a7_1, a8_1, ⟨a9_1, a10_1, a11_1, a12_1⟩⟩ : Msg)).1 = (chk (⟨b1_1, b2_1, b3_1, b4_1, b5_1, b6_1, b7_1, b8_1, ⟨b9_1, b10_1, b11_1, b12_1⟩⟩ : Msg)).1) = decide ((⟨a1_1, a2_1, a3_1, a4_1, a5_1, a6_1, a7_1, a8_1, ⟨a9_1, a10_1, a11_1, a12_1⟩⟩ : Msg) = (⟨b1_1, b2_1, b3_1, b4_1, b5_1, b6_1, b7_1, b8_1, ⟨b9_1, b10_1, b11_1, b12_1⟩⟩ : Msg))) then (
        sp11.pre (()) ∧
        K (.bool true) [])
      else (
        K (.bool false) []))))
def F4 (g : prodL L4) (K : Kn) : Prop :=
  sp15.pre (g.1, g.2.1, g.2.2.1, g.2.2.2.1, g.2.2.2.2.1, g.2.2.2.2.2.1, g.2.2.2.2.2.2.1, g.2.2.2.2.2.2.2.1, g.2.2.2.2.2.2.2.2.1, g.2.2.2.2.2.2.2.2.2.1, g.2.2.2.2.2.2.2.2.2.2.1, g.2.2.2.2.2.2.2.2.2.2.2.1, ()) ∧
  bif greatB (⟨g.1, g.2.1, g.2.2.1, g.2.2.2.1, g.2.2.2.2.1, g.2.2.2.2.2.1, g.2.2.2.2.2.2.1, g.2.2.2.2.2.2.2.1, ⟨g.2.2.2.2.2.2.2.2.1, g.2.2.2.2.2.2.2.2.2.1, g.2.2.2.2.2.2.2.2.2.2.1, g.2.2.2.2.2.2.2.2.2.2.2.1⟩⟩ : Msg) then (
    F4_J2 K true g.1 g.2.1 g.2.2.1 g.2.2.2.1 g.2.2.2.2.1 g.2.2.2.2.2.1 g.2.2.2.2.2.2.1 g.2.2.2.2.2.2.2.1 g.2.2.2.2.2.2.2.2.1 g.2.2.2.2.2.2.2.2.2.1 g.2.2.2.2.2.2.2.2.2.2.1 g.2.2.2.2.2.2.2.2.2.2.2.1 g.2.2.2.2.2.2.2.2.2.2.2.2.1 g.2.2.2.2.2.2.2.2.2.2.2.2.2.1 g.2.2.2.2.2.2.2.2.2.2.2.2.2.2.1 g.2.2.2.2.2.2.2.2.2.2.2.2.2.2.2.1 g.2.2.2.2.2.2.2.2.2.2.2.2.2.2.2.2.1 g.2.2.2.2.2.2.2.2.2.2.2.2.2.2.2.2.2.1 g.2.2.2.2.2.2.2.2.2.2.2.2.2.2.2.2.2.2.1 g.2.2.2.2.2.2.2.2.2.2.2.2.2.2.2.2.2.2.2.1 g.2.2.2.2.2.2.2.2.2.2.2.2.2.2.2.2.2.2.2.2.1 g.2.2.2.2.2.2.2.2.2.2.2.2.2.2.2.2.2.2.2.2.2.1 g.2.2.2.2.2.2.2.2.2.2.2.2.2.2.2.2.2.2.2.2.2.2.1 g.2.2.2.2.2.2.2.2.2.2.2.2.2.2.2.2.2.2.2.2.2.2.2.1)
  else (
    sp15.pre (g.2.2.2.2.2.2.2.2.2.2.2.2.1, g.2.2.2.2.2.2.2.2.2.2.2.2.2.1, g.2.2.2.2.2.2.2.2.2.2.2.2.2.2.1, g.2.2.2.2.2.2.2.2.2.2.2.2.2.2.2.1, g.2.2.2.2.2.2.2.2.2.2.2.2.2.2.2.2.1, g.2.2.2.2.2.2.2.2.2.2.2.2.2.2.2.2.2.1, g.2.2.2.2.2.2.2.2.2.2.2.2.2.2.2.2.2.2.1, g.2.2.2.2.2.2.2.2.2.2.2.2.2.2.2.2.2.2.2.1, g.2.2.2.2.2.2.2.2.2.2.2.2.2.2.2.2.2.2.2.2.1, g.2.2.2.2.2.2.2.2.2.2.2.2.2.2.2.2.2.2.2.2.2.1, g.2.2.2.2.2.2.2.2.2.2.2.2.2.2.2.2.2.2.2.2.2.2.1, g.2.2.2.2.2.2.2.2.2.2.2.2.2.2.2.2.2.2.2.2.2.2.2.1, ()) ∧
    F4_J2 K (greatB (⟨g.2.2.2.2.2.2.2.2.2.2.2.2.1, g.2.2.2.2.2.2.2.2.2.2.2.2.2.1, g.2.2.2.2.2.2.2.2.2.2.2.2.2.2.1, g.2.2.2.2.2.2.2.2.2.2.2.2.2.2.2.1, g.2.2.2.2.2.2.2.2.2.2.2.2.2.2.2.2.1, g.2.2.2.2.2.2.2.2.2.2.2.2.2.2.2.2.2.1, g.2.2.2.2.2.2.2.2.2.2.2.2.2.2.2.2.2.2.1, g.2.2.2.2.2.2.2.2.2.2.2.2.2.2.2.2.2.2.2.1, ⟨g.2.2.2.2.2.2.2.2.2.2.2.2.2.2.2.2.2.2.2.2.1, g.2.2.2.2.2.2.2.2.2.2.2.2.2.2.2.2.2.2.2.2.2.1, g.2.2.2.2.2.2.2.2.2.2.2.2.2.2.2.2.2.2.2.2.2.2.1, g.2.2.2.2.2.2.2.2.2.2.2.2.2.2.2.2.2.2.2.2.2.2.2.1⟩⟩ : Msg)) g.1 g.2.1 g.2.2.1 g.2.2.2.1 g.2.2.2.2.1 g.2.2.2.2.2.1 g.2.2.2.2.2.2.1 g.2.2.2.2.2.2.2.1 g.2.2.2.2.2.2.2.2.1 g.2.2.2.2.2.2.2.2.2.1 g.2.2.2.2.2.2.2.2.2.2.1 g.2.2.2.2.2.2.2.2.2.2.2.1 g.2.2.2.2.2.2.2.2.2.2.2.2.1 g.2.2.2.2.2.2.2.2.2.2.2.2.2.1 g.2.2.2.2.2.2.2.2.2.2.2.2.2.2.1 g.2.2.2.2.2.2.2.2.2.2.2.2.2.2.2.1 g.2.2.2.2.2.2.2.2.2.2.2.2.2.2.2.2.1 g.2.2.2.2.2.2.2.2.2.2.2.2.2.2.2.2.2.1 g.2.2.2.2.2.2.2.2.2.2.2.2.2.2.2.2.2.2.1 g.2.2.2.2.2.2.2.2.2.2.2.2.2.2.2.2.2.2.2.1 g.2.2.2.2.2.2.2.2.2.2.2.2.2.2.2.2.2.2.2.2.1 g.2.2.2.2.2.2.2.2.2.2.2.2.2.2.2.2.2.2.2.2.2.1 g.2.2.2.2.2.2.2.2.2.2.2.2.2.2.2.2.2.2.2.2.2.2.1 g.2.2.2.2.2.2.2.2.2.2.2.2.2.2.2.2.2.2.2.2.2.2.2.1)
theorem F4_eq (g : prodL L4) (K X : Kn) : F4 g K = dfun D (gamX [] [(11, true, sp11), (15, true, sp15), (16, true, sp16), (17, true, sp17)]) (isRaw []) H4 J4 44 [.tmp 4] (codeOf Tryd.f4) (argsT S4 L4 g) [] (settle0 K) X := by kernel_rfl
theorem F4_ok (g : prodL L4) (K X : Kn) (h : F4 g K) : FCalls Tryd.prog 4 (argsT S4 L4 g) [] K X :=
  FCalls.settle0 (dfun_sound (Γ := gamX [] [(11, true, sp11), (15, true, sp15), (16, true, sp16), (17, true, sp17)]) (mu := isRaw []) (H := H4) (J := J4) D_ok (gamX_ok (rs := []) (l := [(11, true, sp11), (15, true, sp15), (16, true, sp16), (17, true, sp17)]) (fun p hp => by cases hp) (by intro p hp; simp only [List.mem_cons, List.not_mem_nil, or_false] at hp; rcases hp with rfl | rfl | rfl | rfl <;> first | exact sp11_ok | exact sp15_ok | exact sp16_ok | exact sp17_ok)) gamX_det rfl Tryd.func4 (c := codeOf Tryd.f4) rfl Tryd.ntmps4 (rs := [.tmp 4]) Tryd.results4 (by unfold enters; rw [Tryd.func4]; kernel_rfl) (Nat.le_of_ble_eq_true (by kernel_rfl)) (X := X) (c0 := 0) (Eq.mp (F4_eq g K X) h))
/-- quilt/quiltlaw50.ProtoBatches -/
def H3 : List (Nat × Hint) := []
def J3 : List (Nat × Hint) := []
abbrev S3 : List Sh := [.leaf, .leaf]
abbrev L3 : List Lf := [.sl .str, .int .i64]
def F3 (g : prodL L3) (K : Kn) : Prop :=
  sp10.pre (g.1, ()) ∧
  bif greatS g.1 then (
    sp11.pre (()) ∧
    K (.bool true) [])
  else (
    sp12.pre (g.1, g.2.1, ()) ∧
  sp13.pre (g.1, g.2.1, ()) ∧
  sp14.pre ((batT g.1 g.2.1).1, (batT g.1 g.2.1).1, ()) ∧
  bif decide (((batT g.1 g.2.1).1) = ((batT g.1 g.2.1).1)) then (
    bif decide ((batT g.1 g.2.1).2 = (batT g.1 g.2.1).2) then (
      sp11.pre (()) ∧
      K (.bool true) [])
    else (
      K (.bool false) []))
  else (
    K (.bool false) []))
theorem F3_eq (g : prodL L3) (K X : Kn) : F3 g K = dfun D (gamX [] [(10, true, sp10), (11, true, sp11), (12, false, sp12), (13, false, sp13), (14, true, sp14)]) (isRaw []) H3 J3 35 [.tmp 4] (codeOf Tryd.f3) (argsT S3 L3 g) [] (settle0 K) X := by kernel_rfl
theorem F3_ok (g : prodL L3) (K X : Kn) (h : F3 g K) : FCalls Tryd.prog 3 (argsT S3 L3 g) [] K X :=
  FCalls.settle0 (dfun_sound (Γ := gamX [] [(10, true, sp10), (11, true, sp11), (12, false, sp12), (13, false, sp13), (14, true, sp14)]) (mu := isRaw []) (H := H3) (J := J3) D_ok (gamX_ok (rs := []) (l := [(10, true, sp10), (11, true, sp11), (12, false, sp12), (13, false, sp13), (14, true, sp14)]) (fun p hp => by cases hp) (by intro p hp; simp only [List.mem_cons, List.not_mem_nil, or_false] at hp; rcases hp with rfl | rfl | rfl | rfl | rfl <;> first | exact sp10_ok | exact sp11_ok | exact sp12_ok | exact sp13_ok | exact sp14_ok)) gamX_det rfl Tryd.func3 (c := codeOf Tryd.f3) rfl Tryd.ntmps3 (rs := [.tmp 4]) Tryd.results3 (by unfold enters; rw [Tryd.func3]; kernel_rfl) (Nat.le_of_ble_eq_true (by kernel_rfl)) (X := X) (c0 := 0) (Eq.mp (F3_eq g K X) h))
/-- quilt/quiltlaw50.ProtoParts -/
def H5 : List (Nat × Hint) := [(8, ⟨[((7, []), some .str)], [(0, .leaf), (1, .leaf), (5, .leaf), (7, .oa .str 0), (33, .leaf), (34, .leaf), (35, .leaf)], [.arr .str], [.sl .str, .int .i64, .sl .msg, .sl .msg, .int .i64, .int .i64, .sl .str]⟩), (23, ⟨[((7, []), none)], [(0, .leaf), (7, .oa .str 0), (118, .leaf), (119, .leaf)], [.arr .str], [.sl .str, .int .i64, .int .i64, .sl .str]⟩)]
def J5 : List (Nat × Hint) := [(12, ⟨[((7, []), none), ((9, []), none)], [(0, .leaf), (1, .leaf), (5, .leaf), (7, .oa .str 0), (8, .leaf), (9, .pt 1 0), (33, .leaf), (34, .leaf), (35, .leaf), (63, .leaf)], [.arr .str, .cells [.leaf, .leaf, .leaf, .leaf, .leaf, .leaf, .leaf, .leaf, .leaf, .leaf, .leaf, .leaf]], [.sl .str, .int .i64, .sl .msg, .int .i64, .sl .msg, .int .i64, .int .i64, .bool, .sl .str, .int .i64, .str, .sl .dig, .sl .rng, .sl .str, .sl .str, .int .i64, .str, .int .i64, .sl .dig, .sl .dig, .sl .dig]⟩), (18, ⟨[((7, []), none)], [(0, .leaf), (1, .leaf), (5, .leaf), (7, .oa .str 0), (33, .leaf), (34, .leaf), (35, .leaf), (110, .leaf)], [.arr .str], [.sl .str, .int .i64, .sl .msg, .sl .msg, .int .i64, .int .i64, .bool, .sl .str]⟩), (19, ⟨[((7, []), none)], [(0, .leaf), (1, .leaf), (5, .leaf), (7, .oa .str 0), (33, .leaf), (34, .leaf), (35, .leaf)], [.arr .str], [.sl .str, .int .i64, .sl .msg, .sl .msg, .int .i64, .int .i64, .sl .str]⟩)]
abbrev S5 : List Sh := [.leaf, .leaf]
abbrev L5 : List Lf := [.sl .str, .int .i64]
def F5_J24 (K : Kn) (W14 : prodL [.sl .str, .int .i64, .sl .msg, .sl .msg, .int .i64, .int .i64, .sl .str] → Prop) (l_23 : List ByteArray) (most_23 : Int) (b_23 : List Msg) (t_23 : List Msg) (t2_23 : Int) (t3_23 : Int) (all_23 : List ByteArray) : Prop :=
  W14 (l_23, most_23, b_23, t_23, t2_23, IntKind.i64.wrap (t3_23 + 1), all_23, ())
def F5_J22 (K : Kn) (W14 : prodL [.sl .str, .int .i64, .sl .msg, .sl .msg, .int .i64, .int .i64, .sl .str] → Prop) (l_21 : List ByteArray) (most_21 : Int) (b_21 : List Msg) (t_21 : List Msg) (t2_21 : Int) (t3_21 : Int) (t4_21 : Bool) (all_21 : List ByteArray) : Prop :=
  bif t4_21 then (
    K (.bool false) [])
  else (
    F5_J24 K W14 l_21 most_21 b_21 t_21 t2_21 t3_21 all_21)
def F5_J17 (K : Kn) (W14 : prodL [.sl .str, .int .i64, .sl .msg, .sl .msg, .int .i64, .int .i64, .sl .str] → Prop) (l_16 : List ByteArray) (most_16 : Int) (b_16 : List Msg) (i_16 : Int) (t_16 : List Msg) (t2_16 : Int) (t3_16 : Int) (t4_16 : Bool) (all_16 : List ByteArray) (m1_16 : Int) (m2_16 : ByteArray) (m3_16 : List Dig) (m4_16 : List Rng) (m5_16 : List ByteArray) (m6_16 : List ByteArray) (m7_16 : Int) (m8_16 : ByteArray) (m9_16 : Int) (m10_16 : List Dig) (m11_16 : List Dig) (m12_16 : List Dig) : Prop :=
  bif t4_16 then (
    K (.bool false) [])
  else (
    Room (all_16.length + m5_16.length) 16 (
  bif decide (IntKind.i64.wrap (i_16 + 1) = (b_16.length : Int)) then (
    F5_J24 K W14 l_16 most_16 b_16 t_16 t2_16 t3_16 (all_16 ++ m5_16))
  else (
    At b_16 (IntKind.i64.wrap (i_16 + 1)) fun u18 =>
    bif decide ((u18.patches.length : Int) = 0) then (
    F5_J24 K W14 l_16 most_16 b_16 t_16 t2_16 t3_16 (all_16 ++ m5_16))
  else (
    Room m5_16.length 16 (
  At b_16 (IntKind.i64.wrap (i_16 + 1)) fun u19 =>
  At u19.patches 0 fun u20 =>
  Room (m5_16.length + [u20].length) 16 (
  sp16.pre (m1_16, m2_16, m3_16, m4_16, m5_16 ++ [u20], m6_16, m7_16, m8_16, m9_16, m10_16, m11_16, m12_16, ()) ∧
  bif decide ((chk (⟨m1_16, m2_16, m3_16, m4_16, m5_16 ++ [u20], m6_16, m7_16, m8_16, ⟨m9_16, m10_16, m11_16, m12_16⟩⟩ : Msg)).2 = 0) then (
    F5_J22 K W14 l_16 most_16 b_16 t_16 t2_16 t3_16 (decide ((((chk (⟨m1_16, m2_16, m3_16, m4_16, m5_16 ++ [u20], m6_16, m7_16, m8_16, ⟨m9_16, m10_16, m11_16, m12_16⟩⟩ : Msg)).1).size : Int) ≤ most_16)) (all_16 ++ m5_16))
  else (
    F5_J22 K W14 l_16 most_16 b_16 t_16 t2_16 t3_16 false (all_16 ++ m5_16))))))))
def F5_B26 (K : Kn) (W26 : prodL [.sl .str, .int .i64, .int .i64, .sl .str] → Prop) (l_25 : List ByteArray) (t_25 : Int) (t2_25 : Int) (all_25 : List ByteArray) : Prop :=
  bif decide (t2_25 < t_25) then (
    0 ≤ t2_25 ∧ t2_25.toNat < all_25.length ∧
  atI all_25 t2_25.toNat fun x27 =>
  At l_25 t2_25 fun u28 =>
  bif !decide (x27 = u28) then (
    K (.bool false) [])
  else (
    W26 (l_25, t_25, IntKind.i64.wrap (t2_25 + 1), all_25, ())))
  else (
    sp11.pre (()) ∧
  K (.bool true) [])
def F5_L26 (K : Kn) (g : prodL [.sl .str, .int .i64, .int .i64, .sl .str]) : Prop :=
  LoopW (γ := prodL [.sl .str, .int .i64, .int .i64, .sl .str]) (fun V y => F5_B26 K V y.1 y.2.1 y.2.2.1 y.2.2.2.1) g
def F5_B14 (K : Kn) (W14 : prodL [.sl .str, .int .i64, .sl .msg, .sl .msg, .int .i64, .int .i64, .sl .str] → Prop) (l_13 : List ByteArray) (most_13 : Int) (b_13 : List Msg) (t_13 : List Msg) (t2_13 : Int) (t3_13 : Int) (all_13 : List ByteArray) : Prop :=
  bif decide (t3_13 < t2_13) then (
    At t_13 t3_13 fun u15 =>
  sp16.pre (u15.kind, u15.name, u15.ids, u15.ranges, u15.patches, u15.paths, u15.code, u15.text, u15.sig.index, u15.sig.revealed, u15.sig.others, u15.sig.path, ()) ∧
  bif !decide ((chk u15).2 = 0) then (
    F5_J17 K W14 l_13 most_13 b_13 t3_13 t_13 t2_13 t3_13 true all_13 u15.kind u15.name u15.ids u15.ranges u15.patches u15.paths u15.code u15.text u15.sig.index u15.sig.revealed u15.sig.others u15.sig.path)
  else (
    bif !decide (u15.kind = 3) then (
      F5_J17 K W14 l_13 most_13 b_13 t3_13 t_13 t2_13 t3_13 true all_13 u15.kind u15.name u15.ids u15.ranges u15.patches u15.paths u15.code u15.text u15.sig.index u15.sig.revealed u15.sig.others u15.sig.path)
    else (
      bif decide ((u15.patches.length : Int) = 0) then (
        F5_J17 K W14 l_13 most_13 b_13 t3_13 t_13 t2_13 t3_13 true all_13 u15.kind u15.name u15.ids u15.ranges u15.patches u15.paths u15.code u15.text u15.sig.index u15.sig.revealed u15.sig.others u15.sig.path)
      else (
        F5_J17 K W14 l_13 most_13 b_13 t3_13 t_13 t2_13 t3_13 (decide (most_13 < (((chk u15).1).size : Int))) all_13 u15.kind u15.name u15.ids u15.ranges u15.patches u15.paths u15.code u15.text u15.sig.index u15.sig.revealed u15.sig.others u15.sig.path))))
  else (
    bif !decide ((all_13.length : Int) = (l_13.length : Int)) then (
    K (.bool false) [])
  else (
    F5_L26 K (l_13, (l_13.length : Int), 0, all_13, ())))
def F5_L14 (K : Kn) (g : prodL [.sl .str, .int .i64, .sl .msg, .sl .msg, .int .i64, .int .i64, .sl .str]) : Prop :=
  LoopW (γ := prodL [.sl .str, .int .i64, .sl .msg, .sl .msg, .int .i64, .int .i64, .sl .str]) (fun V y => F5_B14 K V y.1 y.2.1 y.2.2.1 y.2.2.2.1 y.2.2.2.2.1 y.2.2.2.2.2.1 y.2.2.2.2.2.2.1) g
def F5 (g : prodL L5) (K : Kn) : Prop :=
  sp10.pre (g.1, ()) ∧
  bif greatS g.1 then (
    sp11.pre (()) ∧
    K (.bool true) [])
  else (
    sp12.pre (g.1, g.2.1, ()) ∧
  bif !decide ((batT g.1 g.2.1).2 = 0) then (
    bif decide (((((batT g.1 g.2.1).1).length : Nat) : Int) = 0) then (
      sp11.pre (()) ∧
      K (.bool true) [])
    else (
      K (.bool false) []))
  else (
    F5_L14 K (g.1, g.2.1, (batT g.1 g.2.1).1, (batT g.1 g.2.1).1, ((((batT g.1 g.2.1).1).length : Nat) : Int), 0, [], ())))
theorem F5_eq (g : prodL L5) (K X : Kn) : F5 g K = dfun D (gamX [] [(10, true, sp10), (11, true, sp11), (12, false, sp12), (16, true, sp16)]) (isRaw []) H5 J5 133 [.tmp 4] (codeOf Tryd.f5) (argsT S5 L5 g) [] (settle0 K) X := by kernel_rfl
theorem F5_ok (g : prodL L5) (K X : Kn) (h : F5 g K) : FCalls Tryd.prog 5 (argsT S5 L5 g) [] K X :=
  FCalls.settle0 (dfun_sound (Γ := gamX [] [(10, true, sp10), (11, true, sp11), (12, false, sp12), (16, true, sp16)]) (mu := isRaw []) (H := H5) (J := J5) D_ok (gamX_ok (rs := []) (l := [(10, true, sp10), (11, true, sp11), (12, false, sp12), (16, true, sp16)]) (fun p hp => by cases hp) (by intro p hp; simp only [List.mem_cons, List.not_mem_nil, or_false] at hp; rcases hp with rfl | rfl | rfl | rfl <;> first | exact sp10_ok | exact sp11_ok | exact sp12_ok | exact sp16_ok)) gamX_det rfl Tryd.func5 (c := codeOf Tryd.f5) rfl Tryd.ntmps5 (rs := [.tmp 4]) Tryd.results5 (by unfold enters; rw [Tryd.func5]; kernel_rfl) (Nat.le_of_ble_eq_true (by kernel_rfl)) (X := X) (c0 := 0) (Eq.mp (F5_eq g K X) h))
/-- quilt/quiltlaw50.ProtoFields -/
def H7 : List (Nat × Hint) := []
def J7 : List (Nat × Hint) := [(2, ⟨[((2, []), none)], [(1, .leaf), (2, .pt 0 0), (19, .leaf)], [.cells [.leaf, .leaf, .leaf, .leaf, .leaf, .leaf, .leaf, .leaf, .leaf, .leaf, .leaf, .leaf]], [.str, .bool, .int .i64, .str, .sl .dig, .sl .rng, .sl .str, .sl .str, .int .i64, .str, .int .i64, .sl .dig, .sl .dig, .sl .dig]⟩), (8, ⟨[((2, []), none), ((5, []), none), ((6, []), none), ((7, []), none), ((5, [4]), none), ((6, [5]), none)], [(2, .pt 0 0), (5, .pt 1 0), (6, .pt 2 0), (7, .pt 3 0), (71, .leaf)], [.cells [.leaf, .leaf, .leaf, .leaf, .leaf, .leaf, .leaf, .leaf, .leaf, .leaf, .leaf, .leaf], .cells [.leaf, .leaf, .leaf, .leaf, .oa .str 4, .leaf, .leaf, .leaf, .leaf, .leaf, .leaf, .leaf], .cells [.leaf, .leaf, .leaf, .leaf, .leaf, .oa .str 5, .leaf, .leaf, .leaf, .leaf, .leaf, .leaf], .cells [.leaf, .leaf, .leaf, .leaf, .leaf, .leaf, .leaf, .leaf, .leaf, .leaf, .leaf, .leaf], .arr .str, .arr .str], [.bool, .int .i64, .str, .sl .dig, .sl .rng, .sl .str, .sl .str, .int .i64, .str, .int .i64, .sl .dig, .sl .dig, .sl .dig, .int .i64, .str, .sl .dig, .sl .rng, .sl .str, .int .i64, .str, .int .i64, .sl .dig, .sl .dig, .sl .dig, .int .i64, .str, .sl .dig, .sl .rng, .sl .str, .int .i64, .str, .int .i64, .sl .dig, .sl .dig, .sl .dig, .int .i64, .str, .sl .dig, .sl .rng, .sl .str, .sl .str, .int .i64, .str, .int .i64, .sl .dig, .sl .dig, .sl .dig, .sl .str, .sl .str]⟩), (14, ⟨[((2, []), none)], [(2, .pt 0 0), (133, .leaf)], [.cells [.leaf, .leaf, .leaf, .leaf, .leaf, .leaf, .leaf, .leaf, .leaf, .leaf, .leaf, .leaf]], [.bool, .int .i64, .str, .sl .dig, .sl .rng, .sl .str, .sl .str, .int .i64, .str, .int .i64, .sl .dig, .sl .dig, .sl .dig]⟩)]
abbrev S7 : List Sh := [.ag [.leaf, .leaf, .leaf, .leaf, .leaf, .leaf, .leaf, .leaf, .leaf, .leaf, .leaf, .leaf], .leaf]
abbrev L7 : List Lf := [.int .i64, .str, .sl .dig, .sl .rng, .sl .str, .sl .str, .int .i64, .str, .int .i64, .sl .dig, .sl .dig, .sl .dig, .str]
def F7_J6 (K : Kn) (t_5 : Bool) (m1_5 : Int) (m2_5 : ByteArray) (m3_5 : List Dig) (m4_5 : List Rng) (m5_5 : List ByteArray) (m6_5 : List ByteArray) (m7_5 : Int) (m8_5 : ByteArray) (m9_5 : Int) (m10_5 : List Dig) (m11_5 : List Dig) (m12_5 : List Dig) : Prop :=
  bif t_5 then (
    K (.bool false) [])
  else (
    sp19.pre (8, m2_5, m3_5, m4_5, m5_5, m6_5, m7_5, m8_5, m9_5, m10_5, m11_5, m12_5, ()) ∧
  bif decide ((chk (⟨8, m2_5, m3_5, m4_5, m5_5, m6_5, m7_5, m8_5, ⟨m9_5, m10_5, m11_5, m12_5⟩⟩ : Msg)).2 = 8) then (
    sp11.pre (()) ∧
    K (.bool true) [])
  else (
    K (.bool false) []))
def F7_J4 (K : Kn) (t_3 : Bool) (m1_3 : Int) (m2_3 : ByteArray) (m3_3 : List Dig) (m4_3 : List Rng) (m5_3 : List ByteArray) (m6_3 : List ByteArray) (m7_3 : Int) (m8_3 : ByteArray) (m9_3 : Int) (m10_3 : List Dig) (m11_3 : List Dig) (m12_3 : List Dig) (a1_3 : Int) (a2_3 : ByteArray) (a3_3 : List Dig) (a4_3 : List Rng) (a6_3 : List ByteArray) (a7_3 : Int) (a8_3 : ByteArray) (a9_3 : Int) (a10_3 : List Dig) (a11_3 : List Dig) (a12_3 : List Dig) (b1_3 : Int) (b2_3 : ByteArray) (b3_3 : List Dig) (b4_3 : List Rng) (b5_3 : List ByteArray) (b7_3 : Int) (b8_3 : ByteArray) (b9_3 : Int) (b10_3 : List Dig) (b11_3 : List Dig) (b12_3 : List Dig) (c1_3 : Int) (c2_3 : ByteArray) (c3_3 : List Dig) (c4_3 : List Rng) (c5_3 : List ByteArray) (c6_3 : List ByteArray) (c7_3 : Int) (c8_3 : ByteArray) (c9_3 : Int) (c10_3 : List Dig) (c11_3 : List Dig) (c12_3 : List Dig) (a_3 : List ByteArray) (b_3 : List ByteArray) : Prop :=
  bif t_3 then (
    K (.bool false) [])
  else (
    Room m3_3.length 32 (
  Room (m3_3.length + [(⟨1, 0, 0, 0, 0, 0, 0, 0, 0, 0, 0, 0, 0, 0, 0, 0, 0, 0, 0, 0, 0, 0, 0, 0, 0, 0, 0, 0, 0, 0, 0, 0⟩ : Dig)].length) 32 (
  Room m4_3.length 136 (
  Room (m4_3.length + [(⟨⟨0, 0, 0, 0, 0, 0, 0, 0, 0, 0, 0, 0, 0, 0, 0, 0, 0, 0, 0, 0, 0, 0, 0, 0, 0, 0, 0, 0, 0, 0, 0, 0⟩, ⟨0, 0, 0, 0, 0, 0, 0, 0, 0, 0, 0, 0, 0, 0, 0, 0, 0, 0, 0, 0, 0, 0, 0, 0, 0, 0, 0, 0, 0, 0, 0, 0⟩, false, 0, ⟨0, 0, 0, 0, 0, 0, 0, 0, 0, 0, 0, 0, 0, 0, 0, 0, 0, 0, 0, 0, 0, 0, 0, 0, 0, 0, 0, 0, 0, 0, 0, 0⟩, []⟩ : Rng)].length) 136 (
  Room m12_3.length 32 (
  Room (m12_3.length + [(⟨0, 0, 0, 0, 0, 0, 0, 0, 0, 0, 0, 0, 0, 0, 0, 0, 0, 0, 0, 0, 0, 0, 0, 0, 0, 0, 0, 0, 0, 0, 0, 0⟩ : Dig)].length) 32 (
  bif !decide (m1_3 = 2) then (
    bif !decide (m1_3 = 5) then (
      sp19.pre (m1_3, m2_3, m3_3 ++ [(⟨1, 0, 0, 0, 0, 0, 0, 0, 0, 0, 0, 0, 0, 0, 0, 0, 0, 0, 0, 0, 0, 0, 0, 0, 0, 0, 0, 0, 0, 0, 0, 0⟩ : Dig)], m4_3, m5_3, m6_3, m7_3, m8_3, m9_3, m10_3, m11_3, m12_3, ()) ∧
      bif !decide ((chk (⟨m1_3, m2_3, (m3_3 ++ [(⟨1, 0, 0, 0, 0, 0, 0, 0, 0, 0, 0, 0, 0, 0, 0, 0, 0, 0, 0, 0, 0, 0, 0, 0, 0, 0, 0, 0, 0, 0, 0, 0⟩ : Dig)]), m4_3, m5_3, m6_3, m7_3, m8_3, ⟨m9_3, m10_3, m11_3, m12_3⟩⟩ : Msg)).2 = 1) then (
        F7_J6 K true m1_3 m2_3 m3_3 m4_3 m5_3 m6_3 m7_3 m8_3 m9_3 m10_3 m11_3 m12_3)
      else (
        bif !decide (m1_3 = 1) then (
          sp19.pre (m1_3, m2_3, m3_3, m4_3 ++ [(⟨⟨0, 0, 0, 0, 0, 0, 0, 0, 0, 0, 0, 0, 0, 0, 0, 0, 0, 0, 0, 0, 0, 0, 0, 0, 0, 0, 0, 0, 0, 0, 0, 0⟩, ⟨0, 0, 0, 0, 0, 0, 0, 0, 0, 0, 0, 0, 0, 0, 0, 0, 0, 0, 0, 0, 0, 0, 0, 0, 0, 0, 0, 0, 0, 0, 0, 0⟩, false, 0, ⟨0, 0, 0, 0, 0, 0, 0, 0, 0, 0, 0, 0, 0, 0, 0, 0, 0, 0, 0, 0, 0, 0, 0, 0, 0, 0, 0, 0, 0, 0, 0, 0⟩, []⟩ : Rng)], m5_3, m6_3, m7_3, m8_3, m9_3, m10_3, m11_3, m12_3, ()) ∧
          bif !decide ((chk (⟨m1_3, m2_3, m3_3, (m4_3 ++ [(⟨⟨0, 0, 0, 0, 0, 0, 0, 0, 0, 0, 0, 0, 0, 0, 0, 0, 0, 0, 0, 0, 0, 0, 0, 0, 0, 0, 0, 0, 0, 0, 0, 0⟩, ⟨0, 0, 0, 0, 0, 0, 0, 0, 0, 0, 0, 0, 0, 0, 0, 0, 0, 0, 0, 0, 0, 0, 0, 0, 0, 0, 0, 0, 0, 0, 0, 0⟩, false, 0, ⟨0, 0, 0, 0, 0, 0, 0, 0, 0, 0, 0, 0, 0, 0, 0, 0, 0, 0, 0, 0, 0, 0, 0, 0, 0, 0, 0, 0, 0, 0, 0, 0⟩, []⟩ : Rng)]), m5_3, m6_3, m7_3, m8_3, ⟨m9_3, m10_3, m11_3, m12_3⟩⟩ : Msg)).2 = 1) then (
            F7_J6 K true m1_3 m2_3 m3_3 m4_3 m5_3 m6_3 m7_3 m8_3 m9_3 m10_3 m11_3 m12_3)
          else (
            bif !decide (m1_3 = 5) then (
              sp19.pre (m1_3, m2_3, m3_3, m4_3, m5_3, m6_3, m7_3, m8_3, m9_3, m10_3, m11_3, m12_3 ++ [(⟨0, 0, 0, 0, 0, 0, 0, 0, 0, 0, 0, 0, 0, 0, 0, 0, 0, 0, 0, 0, 0, 0, 0, 0, 0, 0, 0, 0, 0, 0, 0, 0⟩ : Dig)], ()) ∧
              F7_J6 K (!decide ((chk (⟨m1_3, m2_3, m3_3, m4_3, m5_3, m6_3, m7_3, m8_3, ⟨m9_3, m10_3, m11_3, (m12_3 ++ [(⟨0, 0, 0, 0, 0, 0, 0, 0, 0, 0, 0, 0, 0, 0, 0, 0, 0, 0, 0, 0, 0, 0, 0, 0, 0, 0, 0, 0, 0, 0, 0, 0⟩ : Dig)])⟩⟩ : Msg)).2 = 1)) m1_3 m2_3 m3_3 m4_3 m5_3 m6_3 m7_3 m8_3 m9_3 m10_3 m11_3 m12_3)
            else (
              F7_J6 K false m1_3 m2_3 m3_3 m4_3 m5_3 m6_3 m7_3 m8_3 m9_3 m10_3 m11_3 m12_3)))
        else (
          bif !decide (m1_3 = 5) then (
            sp19.pre (m1_3, m2_3, m3_3, m4_3, m5_3, m6_3, m7_3, m8_3, m9_3, m10_3, m11_3, m12_3 ++ [(⟨0, 0, 0, 0, 0, 0, 0, 0, 0, 0, 0, 0, 0, 0, 0, 0, 0, 0, 0, 0, 0, 0, 0, 0, 0, 0, 0, 0, 0, 0, 0, 0⟩ : Dig)], ()) ∧
            F7_J6 K (!decide ((chk (⟨m1_3, m2_3, m3_3, m4_3, m5_3, m6_3, m7_3, m8_3, ⟨m9_3, m10_3, m11_3, (m12_3 ++ [(⟨0, 0, 0, 0, 0, 0, 0, 0, 0, 0, 0, 0, 0, 0, 0, 0, 0, 0, 0, 0, 0, 0, 0, 0, 0, 0, 0, 0, 0, 0, 0, 0⟩ : Dig)])⟩⟩ : Msg)).2 = 1)) m1_3 m2_3 m3_3 m4_3 m5_3 m6_3 m7_3 m8_3 m9_3 m10_3 m11_3 m12_3)
          else (
            F7_J6 K false m1_3 m2_3 m3_3 m4_3 m5_3 m6_3 m7_3 m8_3 m9_3 m10_3 m11_3 m12_3))))
    else (
      bif !decide (m1_3 = 1) then (
        sp19.pre (m1_3, m2_3, m3_3, m4_3 ++ [(⟨⟨0, 0, 0, 0, 0, 0, 0, 0, 0, 0, 0, 0, 0, 0, 0, 0, 0, 0, 0, 0, 0, 0, 0, 0, 0, 0, 0, 0, 0, 0, 0, 0⟩, ⟨0, 0, 0, 0, 0, 0, 0, 0, 0, 0, 0, 0, 0, 0, 0, 0, 0, 0, 0, 0, 0, 0, 0, 0, 0, 0, 0, 0, 0, 0, 0, 0⟩, false, 0, ⟨0, 0, 0, 0, 0, 0, 0, 0, 0, 0, 0, 0, 0, 0, 0, 0, 0, 0, 0, 0, 0, 0, 0, 0, 0, 0, 0, 0, 0, 0, 0, 0⟩, []⟩ : Rng)], m5_3, m6_3, m7_3, m8_3, m9_3, m10_3, m11_3, m12_3, ()) ∧
        bif !decide ((chk (⟨m1_3, m2_3, m3_3, (m4_3 ++ [(⟨⟨0, 0, 0, 0, 0, 0, 0, 0, 0, 0, 0, 0, 0, 0, 0, 0, 0, 0, 0, 0, 0, 0, 0, 0, 0, 0, 0, 0, 0, 0, 0, 0⟩, ⟨0, 0, 0, 0, 0, 0, 0, 0, 0, 0, 0, 0, 0, 0, 0, 0, 0, 0, 0, 0, 0, 0, 0, 0, 0, 0, 0, 0, 0, 0, 0, 0⟩, false, 0, ⟨0, 0, 0, 0, 0, 0, 0, 0, 0, 0, 0, 0, 0, 0, 0, 0, 0, 0, 0, 0, 0, 0, 0, 0, 0, 0, 0, 0, 0, 0, 0, 0⟩, []⟩ : Rng)]), m5_3, m6_3, m7_3, m8_3, ⟨m9_3, m10_3, m11_3, m12_3⟩⟩ : Msg)).2 = 1) then (
          F7_J6 K true m1_3 m2_3 m3_3 m4_3 m5_3 m6_3 m7_3 m8_3 m9_3 m10_3 m11_3 m12_3)
        else (
          bif !decide (m1_3 = 5) then (
            sp19.pre (m1_3, m2_3, m3_3, m4_3, m5_3, m6_3, m7_3, m8_3, m9_3, m10_3, m11_3, m12_3 ++ [(⟨0, 0, 0, 0, 0, 0, 0, 0, 0, 0, 0, 0, 0, 0, 0, 0, 0, 0, 0, 0, 0, 0, 0, 0, 0, 0, 0, 0, 0, 0, 0, 0⟩ : Dig)], ()) ∧
            F7_J6 K (!decide ((chk (⟨m1_3, m2_3, m3_3, m4_3, m5_3, m6_3, m7_3, m8_3, ⟨m9_3, m10_3, m11_3, (m12_3 ++ [(⟨0, 0, 0, 0, 0, 0, 0, 0, 0, 0, 0, 0, 0, 0, 0, 0, 0, 0, 0, 0, 0, 0, 0, 0, 0, 0, 0, 0, 0, 0, 0, 0⟩ : Dig)])⟩⟩ : Msg)).2 = 1)) m1_3 m2_3 m3_3 m4_3 m5_3 m6_3 m7_3 m8_3 m9_3 m10_3 m11_3 m12_3)
          else (
            F7_J6 K false m1_3 m2_3 m3_3 m4_3 m5_3 m6_3 m7_3 m8_3 m9_3 m10_3 m11_3 m12_3)))
      else (
        bif !decide (m1_3 = 5) then (
          sp19.pre (m1_3, m2_3, m3_3, m4_3, m5_3, m6_3, m7_3, m8_3, m9_3, m10_3, m11_3, m12_3 ++ [(⟨0, 0, 0, 0, 0, 0, 0, 0, 0, 0, 0, 0, 0, 0, 0, 0, 0, 0, 0, 0, 0, 0, 0, 0, 0, 0, 0, 0, 0, 0, 0, 0⟩ : Dig)], ()) ∧
          F7_J6 K (!decide ((chk (⟨m1_3, m2_3, m3_3, m4_3, m5_3, m6_3, m7_3, m8_3, ⟨m9_3, m10_3, m11_3, (m12_3 ++ [(⟨0, 0, 0, 0, 0, 0, 0, 0, 0, 0, 0, 0, 0, 0, 0, 0, 0, 0, 0, 0, 0, 0, 0, 0, 0, 0, 0, 0, 0, 0, 0, 0⟩ : Dig)])⟩⟩ : Msg)).2 = 1)) m1_3 m2_3 m3_3 m4_3 m5_3 m6_3 m7_3 m8_3 m9_3 m10_3 m11_3 m12_3)
        else (
          F7_J6 K false m1_3 m2_3 m3_3 m4_3 m5_3 m6_3 m7_3 m8_3 m9_3 m10_3 m11_3 m12_3))))
  else (
    bif !decide (m1_3 = 1) then (
      sp19.pre (m1_3, m2_3, m3_3, m4_3 ++ [(⟨⟨0, 0, 0, 0, 0, 0, 0, 0, 0, 0, 0, 0, 0, 0, 0, 0, 0, 0, 0, 0, 0, 0, 0, 0, 0, 0, 0, 0, 0, 0, 0, 0⟩, ⟨0, 0, 0, 0, 0, 0, 0, 0, 0, 0, 0, 0, 0, 0, 0, 0, 0, 0, 0, 0, 0, 0, 0, 0, 0, 0, 0, 0, 0, 0, 0, 0⟩, false, 0, ⟨0, 0, 0, 0, 0, 0, 0, 0, 0, 0, 0, 0, 0, 0, 0, 0, 0, 0, 0, 0, 0, 0, 0, 0, 0, 0, 0, 0, 0, 0, 0, 0⟩, []⟩ : Rng)], m5_3, m6_3, m7_3, m8_3, m9_3, m10_3, m11_3, m12_3, ()) ∧
      bif !decide ((chk (⟨m1_3, m2_3, m3_3, (m4_3 ++ [(⟨⟨0, 0, 0, 0, 0, 0, 0, 0, 0, 0, 0, 0, 0, 0, 0, 0, 0, 0, 0, 0, 0, 0, 0, 0, 0, 0, 0, 0, 0, 0, 0, 0⟩, ⟨0, 0, 0, 0, 0, 0, 0, 0, 0, 0, 0, 0, 0, 0, 0, 0, 0, 0, 0, 0, 0, 0, 0, 0, 0, 0, 0, 0, 0, 0, 0, 0⟩, false, 0, ⟨0, 0, 0, 0, 0, 0, 0, 0, 0, 0, 0, 0, 0, 0, 0, 0, 0, 0, 0, 0, 0, 0, 0, 0, 0, 0, 0, 0, 0, 0, 0, 0⟩, []⟩ : Rng)]), m5_3, m6_3, m7_3, m8_3, ⟨m9_3, m10_3, m11_3, m12_3⟩⟩ : Msg)).2 = 1) then (
        F7_J6 K true m1_3 m2_3 m3_3 m4_3 m5_3 m6_3 m7_3 m8_3 m9_3 m10_3 m11_3 m12_3)
      else (
        bif !decide (m1_3 = 5) then (
          sp19.pre (m1_3, m2_3, m3_3, m4_3, m5_3, m6_3, m7_3, m8_3, m9_3, m10_3, m11_3, m12_3 ++ [(⟨0, 0, 0, 0, 0, 0, 0, 0, 0, 0, 0, 0, 0, 0, 0, 0, 0, 0, 0, 0, 0, 0, 0, 0, 0, 0, 0, 0, 0, 0, 0, 0⟩ : Dig)], ()) ∧
          F7_J6 K (!decide ((chk (⟨m1_3, m2_3, m3_3, m4_3, m5_3, m6_3, m7_3, m8_3, ⟨m9_3, m10_3, m11_3, (m12_3 ++ [(⟨0, 0, 0, 0, 0, 0, 0, 0, 0, 0, 0, 0, 0, 0, 0, 0, 0, 0, 0, 0, 0, 0, 0, 0, 0, 0, 0, 0, 0, 0, 0, 0⟩ : Dig)])⟩⟩ : Msg)).2 = 1)) m1_3 m2_3 m3_3 m4_3 m5_3 m6_3 m7_3 m8_3 m9_3 m10_3 m11_3 m12_3)
        else (
          F7_J6 K false m1_3 m2_3 m3_3 m4_3 m5_3 m6_3 m7_3 m8_3 m9_3 m10_3 m11_3 m12_3)))
    else (
      bif !decide (m1_3 = 5) then (
        sp19.pre (m1_3, m2_3, m3_3, m4_3, m5_3, m6_3, m7_3, m8_3, m9_3, m10_3, m11_3, m12_3 ++ [(⟨0, 0, 0, 0, 0, 0, 0, 0, 0, 0, 0, 0, 0, 0, 0, 0, 0, 0, 0, 0, 0, 0, 0, 0, 0, 0, 0, 0, 0, 0, 0, 0⟩ : Dig)], ()) ∧
        F7_J6 K (!decide ((chk (⟨m1_3, m2_3, m3_3, m4_3, m5_3, m6_3, m7_3, m8_3, ⟨m9_3, m10_3, m11_3, (m12_3 ++ [(⟨0, 0, 0, 0, 0, 0, 0, 0, 0, 0, 0, 0, 0, 0, 0, 0, 0, 0, 0, 0, 0, 0, 0, 0, 0, 0, 0, 0, 0, 0, 0, 0⟩ : Dig)])⟩⟩ : Msg)).2 = 1)) m1_3 m2_3 m3_3 m4_3 m5_3 m6_3 m7_3 m8_3 m9_3 m10_3 m11_3 m12_3)
      else (
        F7_J6 K false m1_3 m2_3 m3_3 m4_3 m5_3 m6_3 m7_3 m8_3 m9_3 m10_3 m11_3 m12_3))))))))))
def F7_J2 (K : Kn) (other_1 : ByteArray) (t_1 : Bool) (m1_1 : Int) (m2_1 : ByteArray) (m3_1 : List Dig) (m4_1 : List Rng) (m5_1 : List ByteArray) (m6_1 : List ByteArray) (m7_1 : Int) (m8_1 : ByteArray) (m9_1 : Int) (m10_1 : List Dig) (m11_1 : List Dig) (m12_1 : List Dig) : Prop :=
  bif t_1 then (
    sp11.pre (()) ∧
    K (.bool true) [])
  else (
    Room m5_1.length 16 (
  Room (m5_1.length + [other_1].length) 16 (
  Room m6_1.length 16 (
  Room (m6_1.length + [other_1].length) 16 (
  Room (m8_1.size + (⟨#[120]⟩ : ByteArray).size) 1 (
  bif !decide (m1_1 = 3) then (
    sp19.pre (m1_1, m2_1, m3_1, m4_1, m5_1 ++ [other_1], m6_1, m7_1, m8_1, m9_1, m10_1, m11_1, m12_1, ()) ∧
    bif !decide ((chk (⟨m1_1, m2_1, m3_1, m4_1, m5_1 ++ [other_1], m6_1, m7_1, m8_1, ⟨m9_1, m10_1, m11_1, m12_1⟩⟩ : Msg)).2 = 1) then (
      F7_J4 K true m1_1 m2_1 m3_1 m4_1 m5_1 m6_1 m7_1 m8_1 m9_1 m10_1 m11_1 m12_1 m1_1 m2_1 m3_1 m4_1 m6_1 m7_1 m8_1 m9_1 m10_1 m11_1 m12_1 m1_1 m2_1 m3_1 m4_1 m5_1 m7_1 m8_1 m9_1 m10_1 m11_1 m12_1 m1_1 m2_1 m3_1 m4_1 m5_1 m6_1 m7_1 (m8_1 ++ (⟨#[120]⟩ : ByteArray)) m9_1 m10_1 m11_1 m12_1 (m5_1 ++ [other_1]) (m6_1 ++ [other_1]))
    else (
      bif !decide (m1_1 = 7) then (
        sp19.pre (m1_1, m2_1, m3_1, m4_1, m5_1, m6_1 ++ [other_1], m7_1, m8_1, m9_1, m10_1, m11_1, m12_1, ()) ∧
        bif !decide ((chk (⟨m1_1, m2_1, m3_1, m4_1, m5_1, m6_1 ++ [other_1], m7_1, m8_1, ⟨m9_1, m10_1, m11_1, m12_1⟩⟩ : Msg)).2 = 1) then (
          F7_J4 K true m1_1 m2_1 m3_1 m4_1 m5_1 m6_1 m7_1 m8_1 m9_1 m10_1 m11_1 m12_1 m1_1 m2_1 m3_1 m4_1 m6_1 m7_1 m8_1 m9_1 m10_1 m11_1 m12_1 m1_1 m2_1 m3_1 m4_1 m5_1 m7_1 m8_1 m9_1 m10_1 m11_1 m12_1 m1_1 m2_1 m3_1 m4_1 m5_1 m6_1 m7_1 (m8_1 ++ (⟨#[120]⟩ : ByteArray)) m9_1 m10_1 m11_1 m12_1 (m5_1 ++ [other_1]) (m6_1 ++ [other_1]))
        else (
          bif !decide (m1_1 = 6) then (
            sp19.pre (m1_1, m2_1, m3_1, m4_1, m5_1, m6_1, m7_1, m8_1 ++ (⟨#[120]⟩ : ByteArray), m9_1, m10_1, m11_1, m12_1, ()) ∧
            F7_J4 K (!decide ((chk (⟨m1_1, m2_1, m3_1, m4_1, m5_1, m6_1, m7_1, (m8_1 ++ (⟨#[120]⟩ : ByteArray)), ⟨m9_1, m10_1, m11_1, m12_1⟩⟩ : Msg)).2 = 1)) m1_1 m2_1 m3_1 m4_1 m5_1 m6_1 m7_1 m8_1 m9_1 m10_1 m11_1 m12_1 m1_1 m2_1 m3_1 m4_1 m6_1 m7_1 m8_1 m9_1 m10_1 m11_1 m12_1 m1_1 m2_1 m3_1 m4_1 m5_1 m7_1 m8_1 m9_1 m10_1 m11_1 m12_1 m1_1 m2_1 m3_1 m4_1 m5_1 m6_1 m7_1 (m8_1 ++ (⟨#[120]⟩ : ByteArray)) m9_1 m10_1 m11_1 m12_1 (m5_1 ++ [other_1]) (m6_1 ++ [other_1]))
          else (
            F7_J4 K false m1_1 m2_1 m3_1 m4_1 m5_1 m6_1 m7_1 m8_1 m9_1 m10_1 m11_1 m12_1 m1_1 m2_1 m3_1 m4_1 m6_1 m7_1 m8_1 m9_1 m10_1 m11_1 m12_1 m1_1 m2_1 m3_1 m4_1 m5_1 m7_1 m8_1 m9_1 m10_1 m11_1 m12_1 m1_1 m2_1 m3_1 m4_1 m5_1 m6_1 m7_1 (m8_1 ++ (⟨#[120]⟩ : ByteArray)) m9_1 m10_1 m11_1 m12_1 (m5_1 ++ [other_1]) (m6_1 ++ [other_1]))))
      else (
        bif !decide (m1_1 = 6) then (
          sp19.pre (m1_1, m2_1, m3_1, m4_1, m5_1, m6_1, m7_1, m8_1 ++ (⟨#[120]⟩ : ByteArray), m9_1, m10_1, m11_1, m12_1, ()) ∧
          F7_J4 K (!decide ((chk (⟨m1_1, m2_1, m3_1, m4_1, m5_1, m6_1, m7_1, (m8_1 ++ (⟨#[120]⟩ : ByteArray)), ⟨m9_1, m10_1, m11_1, m12_1⟩⟩ : Msg)).2 = 1)) m1_1 m2_1 m3_1 m4_1 m5_1 m6_1 m7_1 m8_1 m9_1 m10_1 m11_1 m12_1 m1_1 m2_1 m3_1 m4_1 m6_1 m7_1 m8_1 m9_1 m10_1 m11_1 m12_1 m1_1 m2_1 m3_1 m4_1 m5_1 m7_1 m8_1 m9_1 m10_1 m11_1 m12_1 m1_1 m2_1 m3_1 m4_1 m5_1 m6_1 m7_1 (m8_1 ++ (⟨#[120]⟩ : ByteArray)) m9_1 m10_1 m11_1 m12_1 (m5_1 ++ [other_1]) (m6_1 ++ [other_1]))
        else (
          F7_J4 K false m1_1 m2_1 m3_1 m4_1 m5_1 m6_1 m7_1 m8_1 m9_1 m10_1 m11_1 m12_1 m1_1 m2_1 m3_1 m4_1 m6_1 m7_1 m8_1 m9_1 m10_1 m11_1 m12_1 m1_1 m2_1 m3_1 m4_1 m5_1 m7_1 m8_1 m9_1 m10_1 m11_1 m12_1 m1_1 m2_1 m3_1 m4_1 m5_1 m6_1 m7_1 (m8_1 ++ (⟨#[120]⟩ : ByteArray)) m9_1 m10_1 m11_1 m12_1 (m5_1 ++ [other_1]) (m6_1 ++ [other_1])))))
  else (
    bif !decide (m1_1 = 7) then (
      sp19.pre (m1_1, m2_1, m3_1, m4_1, m5_1, m6_1 ++ [other_1], m7_1, m8_1, m9_1, m10_1, m11_1, m12_1, ()) ∧
      bif !decide ((chk (⟨m1_1, m2_1, m3_1, m4_1, m5_1, m6_1 ++ [other_1], m7_1, m8_1, ⟨m9_1, m10_1, m11_1, m12_1⟩⟩ : Msg)).2 = 1) then (
        F7_J4 K true m1_1 m2_1 m3_1 m4_1 m5_1 m6_1 m7_1 m8_1 m9_1 m10_1 m11_1 m12_1 m1_1 m2_1 m3_1 m4_1 m6_1 m7_1 m8_1 m9_1 m10_1 m11_1 m12_1 m1_1 m2_1 m3_1 m4_1 m5_1 m7_1 m8_1 m9_1 m10_1 m11_1 m12_1 m1_1 m2_1 m3_1 m4_1 m5_1 m6_1 m7_1 (m8_1 ++ (⟨#[120]⟩ : ByteArray)) m9_1 m10_1 m11_1 m12_1 (m5_1 ++ [other_1]) (m6_1 ++ [other_1]))
      else (
        bif !decide (m1_1 = 6) then (
          sp19.pre (m1_1, m2_1, m3_1, m4_1, m5_1, m6_1, m7_1, m8_1 ++ (⟨#[120]⟩ : ByteArray), m9_1, m10_1, m11_1, m12_1, ()) ∧
          F7_J4 K (!decide ((chk (⟨m1_1, m2_1, m3_1, m4_1, m5_1, m6_1, m7_1, (m8_1 ++ (⟨#[120]⟩ : ByteArray)), ⟨m9_1, m10_1, m11_1, m12_1⟩⟩ : Msg)).2 = 1)) m1_1 m2_1 m3_1 m4_1 m5_1 m6_1 m7_1 m8_1 m9_1 m10_1 m11_1 m12_1 m1_1 m2_1 m3_1 m4_1 m6_1 m7_1 m8_1 m9_1 m10_1 m11_1 m12_1 m1_1 m2_1 m3_1 m4_1 m5_1 m7_1 m8_1 m9_1 m10_1 m11_1 m12_1 m1_1 m2_1 m3_1 m4_1 m5_1 m6_1 m7_1 (m8_1 ++ (⟨#[120]⟩ : ByteArray)) m9_1 m10_1 m11_1 m12_1 (m5_1 ++ [other_1]) (m6_1 ++ [other_1]))
        else (
          F7_J4 K false m1_1 m2_1 m3_1 m4_1 m5_1 m6_1 m7_1 m8_1 m9_1 m10_1 m11_1 m12_1 m1_1 m2_1 m3_1 m4_1 m6_1 m7_1 m8_1 m9_1 m10_1 m11_1 m12_1 m1_1 m2_1 m3_1 m4_1 m5_1 m7_1 m8_1 m9_1 m10_1 m11_1 m12_1 m1_1 m2_1 m3_1 m4_1 m5_1 m6_1 m7_1 (m8_1 ++ (⟨#[120]⟩ : ByteArray)) m9_1 m10_1 m11_1 m12_1 (m5_1 ++ [other_1]) (m6_1 ++ [other_1]))))
    else (
      bif !decide (m1_1 = 6) then (
        sp19.pre (m1_1, m2_1, m3_1, m4_1, m5_1, m6_1, m7_1, m8_1 ++ (⟨#[120]⟩ : ByteArray), m9_1, m10_1, m11_1, m12_1, ()) ∧
        F7_J4 K (!decide ((chk (⟨m1_1, m2_1, m3_1, m4_1, m5_1, m6_1, m7_1, (m8_1 ++ (⟨#[120]⟩ : ByteArray)), ⟨m9_1, m10_1, m11_1, m12_1⟩⟩ : Msg)).2 = 1)) m1_1 m2_1 m3_1 m4_1 m5_1 m6_1 m7_1 m8_1 m9_1 m10_1 m11_1 m12_1 m1_1 m2_1 m3_1 m4_1 m6_1 m7_1 m8_1 m9_1 m10_1 m11_1 m12_1 m1_1 m2_1 m3_1 m4_1 m5_1 m7_1 m8_1 m9_1 m10_1 m11_1 m12_1 m1_1 m2_1 m3_1 m4_1 m5_1 m6_1 m7_1 (m8_1 ++ (⟨#[120]⟩ : ByteArray)) m9_1 m10_1 m11_1 m12_1 (m5_1 ++ [other_1]) (m6_1 ++ [other_1]))
      else (
        F7_J4 K false m1_1 m2_1 m3_1 m4_1 m5_1 m6_1 m7_1 m8_1 m9_1 m10_1 m11_1 m12_1 m1_1 m2_1 m3_1 m4_1 m6_1 m7_1 m8_1 m9_1 m10_1 m11_1 m12_1 m1_1 m2_1 m3_1 m4_1 m5_1 m7_1 m8_1 m9_1 m10_1 m11_1 m12_1 m1_1 m2_1 m3_1 m4_1 m5_1 m6_1 m7_1 (m8_1 ++ (⟨#[120]⟩ : ByteArray)) m9_1 m10_1 m11_1 m12_1 (m5_1 ++ [other_1]) (m6_1 ++ [other_1]))))))))))
def F7 (g : prodL L7) (K : Kn) : Prop :=
  sp15.pre (g.1, g.2.1, g.2.2.1, g.2.2.2.1, g.2.2.2.2.1, g.2.2.2.2.2.1, g.2.2.2.2.2.2.1, g.2.2.2.2.2.2.2.1, g.2.2.2.2.2.2.2.2.1, g.2.2.2.2.2.2.2.2.2.1, g.2.2.2.2.2.2.2.2.2.2.1, g.2.2.2.2.2.2.2.2.2.2.2.1, ()) ∧
  bif greatB (⟨g.1, g.2.1, g.2.2.1, g.2.2.2.1, g.2.2.2.2.1, g.2.2.2.2.2.1, g.2.2.2.2.2.2.1, g.2.2.2.2.2.2.2.1, ⟨g.2.2.2.2.2.2.2.2.1, g.2.2.2.2.2.2.2.2.2.1, g.2.2.2.2.2.2.2.2.2.2.1, g.2.2.2.2.2.2.2.2.2.2.2.1⟩⟩ : Msg) then (
    F7_J2 K g.2.2.2.2.2.2.2.2.2.2.2.2.1 true g.1 g.2.1 g.2.2.1 g.2.2.2.1 g.2.2.2.2.1 g.2.2.2.2.2.1 g.2.2.2.2.2.2.1 g.2.2.2.2.2.2.2.1 g.2.2.2.2.2.2.2.2.1 g.2.2.2.2.2.2.2.2.2.1 g.2.2.2.2.2.2.2.2.2.2.1 g.2.2.2.2.2.2.2.2.2.2.2.1)
  else (
    bif decide (100 < (g.2.2.2.2.2.2.2.2.2.2.2.2.1.size : Int)) then (
      F7_J2 K g.2.2.2.2.2.2.2.2.2.2.2.2.1 true g.1 g.2.1 g.2.2.1 g.2.2.2.1 g.2.2.2.2.1 g.2.2.2.2.2.1 g.2.2.2.2.2.2.1 g.2.2.2.2.2.2.2.1 g.2.2.2.2.2.2.2.2.1 g.2.2.2.2.2.2.2.2.2.1 g.2.2.2.2.2.2.2.2.2.2.1 g.2.2.2.2.2.2.2.2.2.2.2.1)
    else (
      sp19.pre (g.1, g.2.1, g.2.2.1, g.2.2.2.1, g.2.2.2.2.1, g.2.2.2.2.2.1, g.2.2.2.2.2.2.1, g.2.2.2.2.2.2.2.1, g.2.2.2.2.2.2.2.2.1, g.2.2.2.2.2.2.2.2.2.1, g.2.2.2.2.2.2.2.2.2.2.1, g.2.2.2.2.2.2.2.2.2.2.2.1, ()) ∧
      F7_J2 K g.2.2.2.2.2.2.2.2.2.2.2.2.1 (!decide ((chk (⟨g.1, g.2.1, g.2.2.1, g.2.2.2.1, g.2.2.2.2.1, g.2.2.2.2.2.1, g.2.2.2.2.2.2.1, g.2.2.2.2.2.2.2.1, ⟨g.2.2.2.2.2.2.2.2.1, g.2.2.2.2.2.2.2.2.2.1, g.2.2.2.2.2.2.2.2.2.2.1, g.2.2.2.2.2.2.2.2.2.2.2.1⟩⟩ : Msg)).2 = 0)) g.1 g.2.1 g.2.2.1 g.2.2.2.1 g.2.2.2.2.1 g.2.2.2.2.2.1 g.2.2.2.2.2.2.1 g.2.2.2.2.2.2.2.1 g.2.2.2.2.2.2.2.2.1 g.2.2.2.2.2.2.2.2.2.1 g.2.2.2.2.2.2.2.2.2.2.1 g.2.2.2.2.2.2.2.2.2.2.2.1))
theorem F7_eq (g : prodL L7) (K X : Kn) : F7 g K = dfun D (gamX [] [(11, true, sp11), (15, true, sp15), (19, true, sp19)]) (isRaw []) H7 J7 141 [.tmp 4] (codeOf Tryd.f7) (argsT S7 L7 g) [] (settle0 K) X := by kernel_rfl
theorem F7_ok (g : prodL L7) (K X : Kn) (h : F7 g K) : FCalls Tryd.prog 7 (argsT S7 L7 g) [] K X :=
  FCalls.settle0 (dfun_sound (Γ := gamX [] [(11, true, sp11), (15, true, sp15), (19, true, sp19)]) (mu := isRaw []) (H := H7) (J := J7) D_ok (gamX_ok (rs := []) (l := [(11, true, sp11), (15, true, sp15), (19, true, sp19)]) (fun p hp => by cases hp) (by intro p hp; simp only [List.mem_cons, List.not_mem_nil, or_false] at hp; rcases hp with rfl | rfl | rfl <;> first | exact sp11_ok | exact sp15_ok | exact sp19_ok)) gamX_det rfl Tryd.func7 (c := codeOf Tryd.f7) rfl Tryd.ntmps7 (rs := [.tmp 4]) Tryd.results7 (by unfold enters; rw [Tryd.func7]; kernel_rfl) (Nat.le_of_ble_eq_true (by kernel_rfl)) (X := X) (c0 := 0) (Eq.mp (F7_eq g K X) h))
end Go.Proofs.YtoclmkbjgmgekaaDoor
