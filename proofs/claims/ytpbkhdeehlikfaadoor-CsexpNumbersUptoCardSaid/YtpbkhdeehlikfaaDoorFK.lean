/- What functions come to: printed by exf.py. -/
import Derived.Test.YtpbkhdeehlikfaaDoorCR
namespace Go.Proofs.YtpbkhdeehlikfaaDoor
set_option linter.unusedVariables false
set_option linter.unusedSimpArgs false
set_option linter.unusedSectionVars false
open Go.RowKit
attribute [local irreducible] dfun dround
/-- quilt/quiltref01.Int -/
def H19 : List (Nat × Hint) := []
def J19 : List (Nat × Hint) := [(2, ⟨[((2, []), none)], [(0, .leaf), (2, .pt 0 0), (9, .leaf)], [.cells [.leaf, .leaf, .nil]], [.int .i64, .bool, .bool, .str]⟩)]
abbrev S19 : List Sh := [.leaf]
abbrev L19 : List Lf := [.int .i64]
def F19_J2 (K : Kn) (n_1 : Int) (t_1 : Bool) (t1_1 : Bool) (t2_1 : ByteArray) : Prop :=
  bif t_1 then (
    K (.tu [.ag [.bool false, .str (⟨#[]⟩ : ByteArray), .nil], .int .i64 2]) [])
  else (
    sp32.pre (n_1, ()) ∧
  K (.tu [.ag [.bool false, .str (decB n_1), .nil], .int .i64 0]) [])
def F19 (g : prodL L19) (K : Kn) : Prop :=
  bif decide (g.1 < (-1099511627776)) then (
    F19_J2 K g.1 true false (⟨#[]⟩ : ByteArray))
  else (
    F19_J2 K g.1 (decide (1099511627776 < g.1)) false (⟨#[]⟩ : ByteArray))
theorem F19_eq (g : prodL L19) (K X : Kn) : F19 g K = dfun D (gamX [] [(32, true, sp32)]) (isRaw []) H19 J19 14 [.cell 2 25, .tmp 3] (codeOf Tryd.f19) (argsT S19 L19 g) [] (settle0 K) X := by kernel_rfl
theorem F19_ok (g : prodL L19) (K X : Kn) (h : F19 g K) : FCalls Tryd.prog 19 (argsT S19 L19 g) [] K X :=
  FCalls.settle0 (dfun_sound (Γ := gamX [] [(32, true, sp32)]) (mu := isRaw []) (H := H19) (J := J19) D_ok (gamX_ok (rs := []) (l := [(32, true, sp32)]) (fun p hp => by cases hp) (by intro p hp; simp only [List.mem_cons, List.not_mem_nil, or_false] at hp; subst hp; exact sp32_ok)) gamX_det rfl Tryd.func19 (c := codeOf Tryd.f19) rfl Tryd.ntmps19 (rs := [.cell 2 25, .tmp 3]) Tryd.results19 (by unfold enters; rw [Tryd.func19]; kernel_rfl) (Nat.le_of_ble_eq_true (by kernel_rfl)) (X := X) (c0 := 0) (Eq.mp (F19_eq g K X) h))
end Go.Proofs.YtpbkhdeehlikfaaDoor
