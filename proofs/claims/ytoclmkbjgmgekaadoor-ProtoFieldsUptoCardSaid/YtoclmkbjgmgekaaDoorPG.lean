/- What functions come to: printed by exf.py. -/
import Derived.Test.YtoclmkbjgmgekaaDoorP6
import Derived.Test.YtoclmkbjgmgekaaDoorPJ
namespace Go.Proofs.YtoclmkbjgmgekaaDoor
set_option linter.unusedVariables false
set_option linter.unusedSimpArgs false
set_option linter.unusedSectionVars false
open Go.RowKit
attribute [local irreducible] dfun dround
/-- quilt/quiltref50.Check -/
def H20 : List (Nat × Hint) := []
def J20 : List (Nat × Hint) := []
abbrev S20 : List Sh := [.ag [.leaf, .leaf, .leaf, .leaf, .leaf, .leaf, .leaf, .leaf, .leaf, .leaf, .leaf, .leaf]]
abbrev L20 : List Lf := [.int .i64, .str, .sl .dig, .sl .rng, .sl .str, .sl .str, .int .i64, .str, .int .i64, .sl .dig, .sl .dig, .sl .dig]
def F20 (g : prodL L20) (K : Kn) : Prop :=
  sp18.pre (g.1, g.2.1, g.2.2.1, g.2.2.2.1, g.2.2.2.2.1, g.2.2.2.2.2.1, g.2.2.2.2.2.2.1, g.2.2.2.2.2.2.2.1, g.2.2.2.2.2.2.2.2.1, g.2.2.2.2.2.2.2.2.2.1, g.2.2.2.2.2.2.2.2.2.2.1, g.2.2.2.2.2.2.2.2.2.2.2.1, ()) ∧
  K (.int .i64 ((chk (⟨g.1, g.2.1, g.2.2.1, g.2.2.2.1, g.2.2.2.2.1, g.2.2.2.2.2.1, g.2.2.2.2.2.2.1, g.2.2.2.2.2.2.2.1, ⟨g.2.2.2.2.2.2.2.2.1, g.2.2.2.2.2.2.2.2.2.1, g.2.2.2.2.2.2.2.2.2.2.1, g.2.2.2.2.2.2.2.2.2.2.2.1⟩⟩ : Msg)).2)) []
theorem F20_eq (g : prodL L20) (K X : Kn) : F20 g K = dfun D (gamX [] [(18, true, sp18)]) (isRaw []) H20 J20 11 [.tmp 2] (codeOf Tryd.f20) (argsT S20 L20 g) [] (settle0 K) X := by kernel_rfl
theorem F20_ok (g : prodL L20) (K X : Kn) (h : F20 g K) : FCalls Tryd.prog 20 (argsT S20 L20 g) [] K X :=
  FCalls.settle0 (dfun_sound (Γ := gamX [] [(18, true, sp18)]) (mu := isRaw []) (H := H20) (J := J20) D_ok (gamX_ok (rs := []) (l := [(18, true, sp18)]) (fun p hp => by cases hp) (by intro p hp; simp only [List.mem_cons, List.not_mem_nil, or_false] at hp; subst hp; exact sp18_ok)) gamX_det rfl Tryd.func20 (c := codeOf Tryd.f20) rfl Tryd.ntmps20 (rs := [.tmp 2]) Tryd.results20 (by unfold enters; rw [Tryd.func20]; kernel_rfl) (Nat.le_of_ble_eq_true (by kernel_rfl)) (X := X) (c0 := 0) (Eq.mp (F20_eq g K X) h))
/-- quilt/proto.size -/
def H22 : List (Nat × Hint) := []
def J22 : List (Nat × Hint) := []
abbrev S22 : List Sh := [.leaf]
abbrev L22 : List Lf := [.str]
def F22 (g : prodL L22) (K : Kn) : Prop :=
  sp36.pre ((g.1.size : Int), ()) ∧
  K (.int .i64 (IntKind.i64.wrap ((IntKind.i64.wrap (((decB (g.1.size : Int)).size : Int) + 1)) + (g.1.size : Int)))) []
theorem F22_eq (g : prodL L22) (K X : Kn) : F22 g K = dfun D (gamX [] [(36, true, sp36)]) (isRaw []) H22 J22 11 [.tmp 2] (codeOf Tryd.f22) (argsT S22 L22 g) [] (settle0 K) X := by kernel_rfl
theorem F22_ok (g : prodL L22) (K X : Kn) (h : F22 g K) : FCalls Tryd.prog 22 (argsT S22 L22 g) [] K X :=
  FCalls.settle0 (dfun_sound (Γ := gamX [] [(36, true, sp36)]) (mu := isRaw []) (H := H22) (J := J22) D_ok (gamX_ok (rs := []) (l := [(36, true, sp36)]) (fun p hp => by cases hp) (by intro p hp; simp only [List.mem_cons, List.not_mem_nil, or_false] at hp; subst hp; exact sp36_ok)) gamX_det rfl Tryd.func22 (c := codeOf Tryd.f22) rfl Tryd.ntmps22 (rs := [.tmp 2]) Tryd.results22 (by unfold enters; rw [Tryd.func22]; kernel_rfl) (Nat.le_of_ble_eq_true (by kernel_rfl)) (X := X) (c0 := 0) (Eq.mp (F22_eq g K X) h))
/-- quilt/quiltref50.fits -/
def H23 : List (Nat × Hint) := []
def J23 : List (Nat × Hint) := []
abbrev S23 : List Sh := [.leaf, .leaf]
abbrev L23 : List Lf := [.sl .str, .int .i64]
def F23 (g : prodL L23) (K : Kn) : Prop :=
  sp18.pre (3, (⟨#[]⟩ : ByteArray), [], [], g.1, [], 0, (⟨#[]⟩ : ByteArray), 0, [], [], [], ()) ∧
  bif decide ((chk (⟨3, (⟨#[]⟩ : ByteArray), [], [], g.1, [], 0, (⟨#[]⟩ : ByteArray), ⟨0, [], [], []⟩⟩ : Msg)).2 = 0) then (
    K (.bool (decide ((((chk (⟨3, (⟨#[]⟩ : ByteArray), [], [], g.1, [], 0, (⟨#[]⟩ : ByteArray), ⟨0, [], [], []⟩⟩ : Msg)).1).size : Int) ≤ g.2.1))) [])
  else (
    K (.bool false) [])
theorem F23_eq (g : prodL L23) (K X : Kn) : F23 g K = dfun D (gamX [] [(18, true, sp18)]) (isRaw []) H23 J23 21 [.tmp 4] (codeOf Tryd.f23) (argsT S23 L23 g) [] (settle0 K) X := by kernel_rfl
theorem F23_ok (g : prodL L23) (K X : Kn) (h : F23 g K) : FCalls Tryd.prog 23 (argsT S23 L23 g) [] K X :=
  FCalls.settle0 (dfun_sound (Γ := gamX [] [(18, true, sp18)]) (mu := isRaw []) (H := H23) (J := J23) D_ok (gamX_ok (rs := []) (l := [(18, true, sp18)]) (fun p hp => by cases hp) (by intro p hp; simp only [List.mem_cons, List.not_mem_nil, or_false] at hp; subst hp; exact sp18_ok)) gamX_det rfl Tryd.func23 (c := codeOf Tryd.f23) rfl Tryd.ntmps23 (rs := [.tmp 4]) Tryd.results23 (by unfold enters; rw [Tryd.func23]; kernel_rfl) (Nat.le_of_ble_eq_true (by kernel_rfl)) (X := X) (c0 := 0) (Eq.mp (F23_eq g K X) h))
end Go.Proofs.YtoclmkbjgmgekaaDoor
