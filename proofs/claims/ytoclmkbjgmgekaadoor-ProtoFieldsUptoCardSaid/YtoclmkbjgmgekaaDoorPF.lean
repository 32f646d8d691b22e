/- What functions come to: printed by exf.py. -/
import Derived.Test.YtoclmkbjgmgekaaDoorP5
namespace Go.Proofs.YtoclmkbjgmgekaaDoor
set_option linter.unusedVariables false
set_option linter.unusedSimpArgs false
set_option linter.unusedSectionVars false
open Go.RowKit
attribute [local irreducible] dfun dround
/-- quilt/quiltref50.Encode -/
def H18 : List (Nat × Hint) := []
def J18 : List (Nat × Hint) := [(2, ⟨[((1, []), none)], [(1, .pt 0 0), (13, .leaf)], [.cells [.leaf, .leaf, .leaf, .leaf, .leaf, .leaf, .leaf, .leaf, .leaf, .leaf, .leaf, .leaf]], [.bool, .int .i64, .str, .sl .dig, .sl .rng, .sl .str, .sl .str, .int .i64, .str, .int .i64, .sl .dig, .sl .dig, .sl .dig]⟩), (9, ⟨[], [(4, .leaf), (30, .leaf)], [], [.str, .bool]⟩)]
abbrev S18 : List Sh := [.ag [.leaf, .leaf, .leaf, .leaf, .leaf, .leaf, .leaf, .leaf, .leaf, .leaf, .leaf, .leaf]]
abbrev L18 : List Lf := [.int .i64, .str, .sl .dig, .sl .rng, .sl .str, .sl .str, .int .i64, .str, .int .i64, .sl .dig, .sl .dig, .sl .dig]
def F18_J4 (K : Kn) (s_3 : ByteArray) (t_3 : Bool) : Prop :=
  bif t_3 then (
    K (.tu [.str (⟨#[]⟩ : ByteArray), .int .i64 4]) [])
  else (
    K (.tu [.str s_3, .int .i64 0]) [])
def F18_J2 (K : Kn) (t_1 : Bool) (m1_1 : Int) (m2_1 : ByteArray) (m3_1 : List Dig) (m4_1 : List Rng) (m5_1 : List ByteArray) (m6_1 : List ByteArray) (m7_1 : Int) (m8_1 : ByteArray) (m9_1 : Int) (m10_1 : List Dig) (m11_1 : List Dig) (m12_1 : List Dig) : Prop :=
  bif t_1 then (
    K (.tu [.str (⟨#[]⟩ : ByteArray), .int .i64 8]) [])
  else (
    sp29.pre (m1_1, m2_1, m3_1, m4_1, m5_1, m6_1, m7_1, m8_1, m9_1, m10_1, m11_1, m12_1, ()) ∧
  bif foreign (⟨m1_1, m2_1, m3_1, m4_1, m5_1, m6_1, m7_1, m8_1, ⟨m9_1, m10_1, m11_1, m12_1⟩⟩ : Msg) then (
    K (.tu [.str (⟨#[]⟩ : ByteArray), .int .i64 1]) [])
  else (
    sp30.pre (m1_1, m2_1, m3_1, m4_1, m5_1, m6_1, m7_1, m8_1, m9_1, m10_1, m11_1, m12_1, ()) ∧
  bif !numbered (⟨m1_1, m2_1, m3_1, m4_1, m5_1, m6_1, m7_1, m8_1, ⟨m9_1, m10_1, m11_1, m12_1⟩⟩ : Msg) then (
    K (.tu [.str (⟨#[]⟩ : ByteArray), .int .i64 2]) [])
  else (
    sp32.pre (m1_1, m2_1, m3_1, m4_1, m5_1, m6_1, m7_1, m8_1, m9_1, m10_1, m11_1, m12_1, ()) ∧
  sp31.pre ((sexpX (⟨m1_1, m2_1, m3_1, m4_1, m5_1, m6_1, m7_1, m8_1, ⟨m9_1, m10_1, m11_1, m12_1⟩⟩ : Msg)).isList, (sexpX (⟨m1_1, m2_1, m3_1, m4_1, m5_1, m6_1, m7_1, m8_1, ⟨m9_1, m10_1, m11_1, m12_1⟩⟩ : Msg)).atom, (sexpX (⟨m1_1, m2_1, m3_1, m4_1, m5_1, m6_1, m7_1, m8_1, ⟨m9_1, m10_1, m11_1, m12_1⟩⟩ : Msg)).list, ()) ∧
  bif !decide ((enT ⟨((sexpX (⟨m1_1, m2_1, m3_1, m4_1, m5_1, m6_1, m7_1, m8_1, ⟨m9_1, m10_1, m11_1, m12_1⟩⟩ : Msg)).isList), ((sexpX (⟨m1_1, m2_1, m3_1, m4_1, m5_1, m6_1, m7_1, m8_1, ⟨m9_1, m10_1, m11_1, m12_1⟩⟩ : Msg)).atom), ((sexpX (⟨m1_1, m2_1, m3_1, m4_1, m5_1, m6_1, m7_1, m8_1, ⟨m9_1, m10_1, m11_1, m12_1⟩⟩ : Msg)).list)⟩).2 = 0) then (
    F18_J4 K ((enT ⟨((sexpX (⟨m1_1, m2_1, m3_1, m4_1, m5_1, m6_1, m7_1, m8_1, ⟨m9_1, m10_1, m11_1, m12_1⟩⟩ : Msg)).isList), ((sexpX (⟨m1_1, m2_1, m3_1, m4_1, m5_1, m6_1, m7_1, m8_1, ⟨m9_1, m10_1, m11_1, m12_1⟩⟩ : Msg)).atom), ((sexpX (⟨m1_1, m2_1, m3_1, m4_1, m5_1, m6_1, m7_1, m8_1, ⟨m9_1, m10_1, m11_1, m12_1⟩⟩ : Msg)).list)⟩).1) true)
  else (
    F18_J4 K ((enT ⟨((sexpX (⟨m1_1, m2_1, m3_1, m4_1, m5_1, m6_1, m7_1, m8_1, ⟨m9_1, m10_1, m11_1, m12_1⟩⟩ : Msg)).isList), ((sexpX (⟨m1_1, m2_1, m3_1, m4_1, m5_1, m6_1, m7_1, m8_1, ⟨m9_1, m10_1, m11_1, m12_1⟩⟩ : Msg)).atom), ((sexpX (⟨m1_1, m2_1, m3_1, m4_1, m5_1, m6_1, m7_1, m8_1, ⟨m9_1, m10_1, m11_1, m12_1⟩⟩ : Msg)).list)⟩).1) (decide (65536 < (((enT ⟨((sexpX (⟨m1_1, m2_1, m3_1, m4_1, m5_1, m6_1, m7_1, m8_1, ⟨m9_1, m10_1, m11_1, m12_1⟩⟩ : Msg)).isList), ((sexpX (⟨m1_1, m2_1, m3_1, m4_1, m5_1, m6_1, m7_1, m8_1, ⟨m9_1, m10_1, m11_1, m12_1⟩⟩ : Msg)).atom), ((sexpX (⟨m1_1, m2_1, m3_1, m4_1, m5_1, m6_1, m7_1, m8_1, ⟨m9_1, m10_1, m11_1, m12_1⟩⟩ : Msg)).list)⟩).1).size : Int)))))))
def F18 (g : prodL L18) (K : Kn) : Prop :=
  bif decide (g.1 < 1) then (
    F18_J2 K true g.1 g.2.1 g.2.2.1 g.2.2.2.1 g.2.2.2.2.1 g.2.2.2.2.2.1 g.2.2.2.2.2.2.1 g.2.2.2.2.2.2.2.1 g.2.2.2.2.2.2.2.2.1 g.2.2.2.2.2.2.2.2.2.1 g.2.2.2.2.2.2.2.2.2.2.1 g.2.2.2.2.2.2.2.2.2.2.2.1)
  else (
    F18_J2 K (decide (7 < g.1)) g.1 g.2.1 g.2.2.1 g.2.2.2.1 g.2.2.2.2.1 g.2.2.2.2.2.1 g.2.2.2.2.2.2.1 g.2.2.2.2.2.2.2.1 g.2.2.2.2.2.2.2.2.1 g.2.2.2.2.2.2.2.2.2.1 g.2.2.2.2.2.2.2.2.2.2.1 g.2.2.2.2.2.2.2.2.2.2.2.1)
theorem F18_eq (g : prodL L18) (K X : Kn) : F18 g K = dfun D (gamX [] [(29, true, sp29), (30, true, sp30), (31, true, sp31), (32, false, sp32)]) (isRaw []) H18 J18 32 [.tmp 2, .tmp 3] (codeOf Tryd.f18) (argsT S18 L18 g) [] (settle0 K) X := by kernel_rfl
theorem F18_ok (g : prodL L18) (K X : Kn) (h : F18 g K) : FCalls Tryd.prog 18 (argsT S18 L18 g) [] K X :=
  FCalls.settle0 (dfun_sound (Γ := gamX [] [(29, true, sp29), (30, true, sp30), (31, true, sp31), (32, false, sp32)]) (mu := isRaw []) (H := H18) (J := J18) D_ok (gamX_ok (rs := []) (l := [(29, true, sp29), (30, true, sp30), (31, true, sp31), (32, false, sp32)]) (fun p hp => by cases hp) (by intro p hp; simp only [List.mem_cons, List.not_mem_nil, or_false] at hp; rcases hp with rfl | rfl | rfl | rfl <;> first | exact sp29_ok | exact sp30_ok | exact sp31_ok | exact sp32_ok)) gamX_det rfl Tryd.func18 (c := codeOf Tryd.f18) rfl Tryd.ntmps18 (rs := [.tmp 2, .tmp 3]) Tryd.results18 (by unfold enters; rw [Tryd.func18]; kernel_rfl) (Nat.le_of_ble_eq_true (by kernel_rfl)) (X := X) (c0 := 0) (Eq.mp (F18_eq g K X) h))
/-- quilt/proto.Encode -/
def H16 : List (Nat × Hint) := []
def J16 : List (Nat × Hint) := []
abbrev S16 : List Sh := [.ag [.leaf, .leaf, .leaf, .leaf, .leaf, .leaf, .leaf, .leaf, .leaf, .leaf, .leaf, .leaf]]
abbrev L16 : List Lf := [.int .i64, .str, .sl .dig, .sl .rng, .sl .str, .sl .str, .int .i64, .str, .int .i64, .sl .dig, .sl .dig, .sl .dig]
def F16 (g : prodL L16) (K : Kn) : Prop :=
  sp24.pre (g.1, g.2.1, g.2.2.1, g.2.2.2.1, g.2.2.2.2.1, g.2.2.2.2.2.1, g.2.2.2.2.2.2.1, g.2.2.2.2.2.2.2.1, g.2.2.2.2.2.2.2.2.1, g.2.2.2.2.2.2.2.2.2.1, g.2.2.2.2.2.2.2.2.2.2.1, g.2.2.2.2.2.2.2.2.2.2.2.1, ()) ∧
  K (.tu [.str ((chk (⟨g.1, g.2.1, g.2.2.1, g.2.2.2.1, g.2.2.2.2.1, g.2.2.2.2.2.1, g.2.2.2.2.2.2.1, g.2.2.2.2.2.2.2.1, ⟨g.2.2.2.2.2.2.2.2.1, g.2.2.2.2.2.2.2.2.2.1, g.2.2.2.2.2.2.2.2.2.2.1, g.2.2.2.2.2.2.2.2.2.2.2.1⟩⟩ : Msg)).1), .int .i64 ((chk (⟨g.1, g.2.1, g.2.2.1, g.2.2.2.1, g.2.2.2.2.1, g.2.2.2.2.2.1, g.2.2.2.2.2.2.1, g.2.2.2.2.2.2.2.1, ⟨g.2.2.2.2.2.2.2.2.1, g.2.2.2.2.2.2.2.2.2.1, g.2.2.2.2.2.2.2.2.2.2.1, g.2.2.2.2.2.2.2.2.2.2.2.1⟩⟩ : Msg)).2)]) []
theorem F16_eq (g : prodL L16) (K X : Kn) : F16 g K = dfun D (gamX [] [(24, true, sp24)]) (isRaw []) H16 J16 8 [.tmp 2, .tmp 3] (codeOf Tryd.f16) (argsT S16 L16 g) [] (settle0 K) X := by kernel_rfl
theorem F16_ok (g : prodL L16) (K X : Kn) (h : F16 g K) : FCalls Tryd.prog 16 (argsT S16 L16 g) [] K X :=
  FCalls.settle0 (dfun_sound (Γ := gamX [] [(24, true, sp24)]) (mu := isRaw []) (H := H16) (J := J16) D_ok (gamX_ok (rs := []) (l := [(24, true, sp24)]) (fun p hp => by cases hp) (by intro p hp; simp only [List.mem_cons, List.not_mem_nil, or_false] at hp; subst hp; exact sp24_ok)) gamX_det rfl Tryd.func16 (c := codeOf Tryd.f16) rfl Tryd.ntmps16 (rs := [.tmp 2, .tmp 3]) Tryd.results16 (by unfold enters; rw [Tryd.func16]; kernel_rfl) (Nat.le_of_ble_eq_true (by kernel_rfl)) (X := X) (c0 := 0) (Eq.mp (F16_eq g K X) h))
/-- quilt/proto.Check -/
def H19 : List (Nat × Hint) := []
def J19 : List (Nat × Hint) := []
abbrev S19 : List Sh := [.ag [.leaf, .leaf, .leaf, .leaf, .leaf, .leaf, .leaf, .leaf, .leaf, .leaf, .leaf, .leaf]]
abbrev L19 : List Lf := [.int .i64, .str, .sl .dig, .sl .rng, .sl .str, .sl .str, .int .i64, .str, .int .i64, .sl .dig, .sl .dig, .sl .dig]
def F19 (g : prodL L19) (K : Kn) : Prop :=
  sp24.pre (g.1, g.2.1, g.2.2.1, g.2.2.2.1, g.2.2.2.2.1, g.2.2.2.2.2.1, g.2.2.2.2.2.2.1, g.2.2.2.2.2.2.2.1, g.2.2.2.2.2.2.2.2.1, g.2.2.2.2.2.2.2.2.2.1, g.2.2.2.2.2.2.2.2.2.2.1, g.2.2.2.2.2.2.2.2.2.2.2.1, ()) ∧
  K (.int .i64 ((chk (⟨g.1, g.2.1, g.2.2.1, g.2.2.2.1, g.2.2.2.2.1, g.2.2.2.2.2.1, g.2.2.2.2.2.2.1, g.2.2.2.2.2.2.2.1, ⟨g.2.2.2.2.2.2.2.2.1, g.2.2.2.2.2.2.2.2.2.1, g.2.2.2.2.2.2.2.2.2.2.1, g.2.2.2.2.2.2.2.2.2.2.2.1⟩⟩ : Msg)).2)) []
theorem F19_eq (g : prodL L19) (K X : Kn) : F19 g K = dfun D (gamX [] [(24, true, sp24)]) (isRaw []) H19 J19 11 [.tmp 2] (codeOf Tryd.f19) (argsT S19 L19 g) [] (settle0 K) X := by kernel_rfl
theorem F19_ok (g : prodL L19) (K X : Kn) (h : F19 g K) : FCalls Tryd.prog 19 (argsT S19 L19 g) [] K X :=
  FCalls.settle0 (dfun_sound (Γ := gamX [] [(24, true, sp24)]) (mu := isRaw []) (H := H19) (J := J19) D_ok (gamX_ok (rs := []) (l := [(24, true, sp24)]) (fun p hp => by cases hp) (by intro p hp; simp only [List.mem_cons, List.not_mem_nil, or_false] at hp; subst hp; exact sp24_ok)) gamX_det rfl Tryd.func19 (c := codeOf Tryd.f19) rfl Tryd.ntmps19 (rs := [.tmp 2]) Tryd.results19 (by unfold enters; rw [Tryd.func19]; kernel_rfl) (Nat.le_of_ble_eq_true (by kernel_rfl)) (X := X) (c0 := 0) (Eq.mp (F19_eq g K X) h))
end Go.Proofs.YtoclmkbjgmgekaaDoor
