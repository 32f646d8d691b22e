/- What functions come to: printed by exf.py. -/
import Derived.Test.YtofjpelbjehddaaDoorK1
namespace Go.Proofs.YtofjpelbjehddaaDoor
set_option linter.unusedVariables false
set_option linter.unusedSimpArgs false
set_option linter.unusedSectionVars false
open Go.RowKit
attribute [local irreducible] dfun dround
/-- quilt/arq.Encode -/
def H6 : List (Nat × Hint) := []
def J6 : List (Nat × Hint) := []
abbrev S6 : List Sh := [.ag [.leaf, .leaf, .leaf]]
abbrev L6 : List Lf := [.bool, .int .i64, .str]
def F6 (g : prodL L6) (K : Kn) : Prop :=
  sp16.pre (g.1, g.2.1, g.2.2.1, ()) ∧
  bif !decide (frmErr ⟨g.1, g.2.1, g.2.2.1⟩ = 0) then (
    K (.tu [.str (⟨#[]⟩ : ByteArray), .int .i64 (frmErr ⟨g.1, g.2.1, g.2.2.1⟩)]) [])
  else (
    sp17.pre (g.2.1, ()) ∧
  bif !decide ((intB g.2.1).2 = 0) then (
    K (.tu [.str (⟨#[]⟩ : ByteArray), .int .i64 ((intB g.2.1).2)]) [])
  else (
    sp19.pre (g.1, g.2.1, g.2.2.1, ()) ∧
  sp18.pre (true, (⟨#[]⟩ : ByteArray), [(⟨false, (wordB g.1), []⟩ : Sx), (⟨((intB g.2.1).1.isList), ((intB g.2.1).1.atom), ((intB g.2.1).1.list)⟩ : Sx), (⟨false, g.2.2.1, []⟩ : Sx)], ()) ∧
  K (.tu [.str ((enT ⟨true, (⟨#[]⟩ : ByteArray), [(⟨false, (wordB g.1), []⟩ : Sx), (⟨((intB g.2.1).1.isList), ((intB g.2.1).1.atom), ((intB g.2.1).1.list)⟩ : Sx), (⟨false, g.2.2.1, []⟩ : Sx)]⟩).1), .int .i64 ((enT ⟨true, (⟨#[]⟩ : ByteArray), [(⟨false, (wordB g.1), []⟩ : Sx), (⟨((intB g.2.1).1.isList), ((intB g.2.1).1.atom), ((intB g.2.1).1.list)⟩ : Sx), (⟨false, g.2.2.1, []⟩ : Sx)]⟩).2)]) []))
theorem F6_eq (g : prodL L6) (K X : Kn) : F6 g K = dfun D (gamX [] [(16, true, sp16), (17, false, sp17), (18, true, sp18), (19, true, sp19)]) (isRaw []) H6 J6 33 [.tmp 2, .tmp 3] (codeOf Tryd.f6) (argsT S6 L6 g) [] (settle0 K) X := by kernel_rfl
theorem F6_ok (g : prodL L6) (K X : Kn) (h : F6 g K) : FCalls Tryd.prog 6 (argsT S6 L6 g) [] K X :=
  FCalls.settle0 (dfun_sound (Γ := gamX [] [(16, true, sp16), (17, false, sp17), (18, true, sp18), (19, true, sp19)]) (mu := isRaw []) (H := H6) (J := J6) D_ok (gamX_ok (rs := []) (l := [(16, true, sp16), (17, false, sp17), (18, true, sp18), (19, true, sp19)]) (fun p hp => by cases hp) (by intro p hp; simp only [List.mem_cons, List.not_mem_nil, or_false] at hp; rcases hp with rfl | rfl | rfl | rfl <;> first | exact sp16_ok | exact sp17_ok | exact sp18_ok | exact sp19_ok)) gamX_det rfl Tryd.func6 (c := codeOf Tryd.f6) rfl Tryd.ntmps6 (rs := [.tmp 2, .tmp 3]) Tryd.results6 (by unfold enters; rw [Tryd.func6]; kernel_rfl) (Nat.le_of_ble_eq_true (by kernel_rfl)) (X := X) (c0 := 0) (Eq.mp (F6_eq g K X) h))
/-- quilt/quiltref49.Encode -/
def H7 : List (Nat × Hint) := []
def J7 : List (Nat × Hint) := [(7, ⟨[((1, []), none)], [(1, .pt 0 0), (5, .leaf)], [.cells [.leaf, .leaf, .leaf]], [.str, .bool, .int .i64, .str]⟩)]
abbrev S7 : List Sh := [.ag [.leaf, .leaf, .leaf]]
abbrev L7 : List Lf := [.bool, .int .i64, .str]
def F7_J2 (K : Kn) (kind_1 : ByteArray) (f1_1 : Bool) (f2_1 : Int) (f3_1 : ByteArray) : Prop :=
  sp21.pre (f2_1, ()) ∧
  sp22.pre (true, (⟨#[]⟩ : ByteArray), [(⟨false, kind_1, []⟩ : Sx), (⟨((intB f2_1).1.isList), ((intB f2_1).1.atom), ((intB f2_1).1.list)⟩ : Sx), (⟨false, f3_1, []⟩ : Sx)], ()) ∧
  K (.tu [.str ((enT ⟨true, (⟨#[]⟩ : ByteArray), [(⟨false, kind_1, []⟩ : Sx), (⟨((intB f2_1).1.isList), ((intB f2_1).1.atom), ((intB f2_1).1.list)⟩ : Sx), (⟨false, f3_1, []⟩ : Sx)]⟩).1), .int .i64 ((enT ⟨true, (⟨#[]⟩ : ByteArray), [(⟨false, kind_1, []⟩ : Sx), (⟨((intB f2_1).1.isList), ((intB f2_1).1.atom), ((intB f2_1).1.list)⟩ : Sx), (⟨false, f3_1, []⟩ : Sx)]⟩).2)]) []
def F7 (g : prodL L7) (K : Kn) : Prop :=
  sp20.pre (g.1, g.2.1, g.2.2.1, ()) ∧
  bif !decide (frmErr ⟨g.1, g.2.1, g.2.2.1⟩ = 0) then (
    K (.tu [.str (⟨#[]⟩ : ByteArray), .int .i64 (frmErr ⟨g.1, g.2.1, g.2.2.1⟩)]) [])
  else (
    bif g.1 then (
    F7_J2 K (⟨#[97, 99, 107]⟩ : ByteArray) g.1 g.2.1 g.2.2.1)
  else (
    F7_J2 K (⟨#[100, 97, 116, 97]⟩ : ByteArray) g.1 g.2.1 g.2.2.1))
theorem F7_eq (g : prodL L7) (K X : Kn) : F7 g K = dfun D (gamX [] [(20, true, sp20), (21, false, sp21), (22, true, sp22)]) (isRaw []) H7 J7 32 [.tmp 2, .tmp 3] (codeOf Tryd.f7) (argsT S7 L7 g) [] (settle0 K) X := by kernel_rfl
theorem F7_ok (g : prodL L7) (K X : Kn) (h : F7 g K) : FCalls Tryd.prog 7 (argsT S7 L7 g) [] K X :=
  FCalls.settle0 (dfun_sound (Γ := gamX [] [(20, true, sp20), (21, false, sp21), (22, true, sp22)]) (mu := isRaw []) (H := H7) (J := J7) D_ok (gamX_ok (rs := []) (l := [(20, true, sp20), (21, false, sp21), (22, true, sp22)]) (fun p hp => by cases hp) (by intro p hp; simp only [List.mem_cons, List.not_mem_nil, or_false] at hp; rcases hp with rfl | rfl | rfl <;> first | exact sp20_ok | exact sp21_ok | exact sp22_ok)) gamX_det rfl Tryd.func7 (c := codeOf Tryd.f7) rfl Tryd.ntmps7 (rs := [.tmp 2, .tmp 3]) Tryd.results7 (by unfold enters; rw [Tryd.func7]; kernel_rfl) (Nat.le_of_ble_eq_true (by kernel_rfl)) (X := X) (c0 := 0) (Eq.mp (F7_eq g K X) h))
end Go.Proofs.YtofjpelbjehddaaDoor
