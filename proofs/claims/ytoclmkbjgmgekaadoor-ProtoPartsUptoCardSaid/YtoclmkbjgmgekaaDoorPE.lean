/- What functions come to: printed by exf.py. -/
import Derived.Test.YtoclmkbjgmgekaaDoorP4
namespace Go.Proofs.YtoclmkbjgmgekaaDoor
set_option linter.unusedVariables false
set_option linter.unusedSimpArgs false
set_option linter.unusedSectionVars false
open Go.RowKit
attribute [local irreducible] dfun dround
/-- quilt/quiltref50.sexp -/
def H32 : List (Nat × Hint) := []
def J32 : List (Nat × Hint) := [(15, ⟨[((2, []), none)], [(2, .pt 0 0), (3, .leaf)], [.cells [.leaf, .leaf, .nil]], [.sl .sexp, .bool, .str]⟩)]
abbrev S32 : List Sh := [.ag [.leaf, .leaf, .leaf, .leaf, .leaf, .leaf, .leaf, .leaf, .leaf, .leaf, .leaf, .leaf]]
abbrev L32 : List Lf := [.int .i64, .str, .sl .dig, .sl .rng, .sl .str, .sl .str, .int .i64, .str, .int .i64, .sl .dig, .sl .dig, .sl .dig]
def F32_J3 (K : Kn) (l_2 : List Sx) (t1_2 : Bool) (t2_2 : ByteArray) : Prop :=
  True ∧
  K (.ag [.bool true, .str (⟨#[]⟩ : ByteArray), .sl false .sexp l_2]) []
def F32 (g : prodL L32) (K : Kn) : Prop :=
  True ∧
  0 ≤ g.1 ∧ g.1.toNat < 8 ∧ atI [(⟨#[]⟩ : ByteArray), (⟨#[114, 97, 110, 103, 101, 115]⟩ : ByteArray), (⟨#[119, 97, 110, 116]⟩ : ByteArray), (⟨#[112, 97, 116, 99, 104, 101, 115]⟩ : ByteArray), (⟨#[100, 111, 110, 101]⟩ : ByteArray), (⟨#[112, 117, 115, 104]⟩ : ByteArray), (⟨#[114, 101, 112, 108, 121]⟩ : ByteArray), (⟨#[112, 97, 116, 104, 115]⟩ : ByteArray)] g.1.toNat fun s1 =>
  True ∧
  bif decide (g.1 = 1) then (
    sp48.pre (g.2.2.2.1, ()) ∧
    bif decide ((rangesX g.2.2.2.1).length = 0) then (
      F32_J3 K [(⟨false, s1, []⟩ : Sx)] false (⟨#[]⟩ : ByteArray))
    else (
      Need (0 < (rangesX g.2.2.2.1).length) (Room ([(⟨false, s1, []⟩ : Sx)].length + (rangesX g.2.2.2.1).length) 48 (
      F32_J3 K ([(⟨false, s1, []⟩ : Sx)] ++ (rangesX g.2.2.2.1)) false (⟨#[]⟩ : ByteArray)))))
  else (
    bif decide (g.1 = 2) then (
      sp49.pre (g.2.2.1, ()) ∧
      bif decide ((digsX g.2.2.1).length = 0) then (
        F32_J3 K [(⟨false, s1, []⟩ : Sx)] false (⟨#[]⟩ : ByteArray))
      else (
        Need (0 < (digsX g.2.2.1).length) (Room ([(⟨false, s1, []⟩ : Sx)].length + (digsX g.2.2.1).length) 48 (
        F32_J3 K ([(⟨false, s1, []⟩ : Sx)] ++ (digsX g.2.2.1)) false (⟨#[]⟩ : ByteArray)))))
    else (
      bif decide (g.1 = 3) then (
        sp50.pre (g.2.2.2.2.1, ()) ∧
        bif decide ((atomsX g.2.2.2.2.1).length = 0) then (
          F32_J3 K [(⟨false, s1, []⟩ : Sx)] false (⟨#[]⟩ : ByteArray))
        else (
          Need (0 < (atomsX g.2.2.2.2.1).length) (Room ([(⟨false, s1, []⟩ : Sx)].length + (atomsX g.2.2.2.2.1).length) 48 (
          F32_J3 K ([(⟨false, s1, []⟩ : Sx)] ++ (atomsX g.2.2.2.2.1)) false (⟨#[]⟩ : ByteArray)))))
      else (
        bif decide (g.1 = 5) then (
          True ∧
          sp49.pre (g.2.2.1, ()) ∧
          True ∧
          sp52.pre (g.2.2.2.2.2.2.2.2.1, g.2.2.2.2.2.2.2.2.2.1, g.2.2.2.2.2.2.2.2.2.2.1, g.2.2.2.2.2.2.2.2.2.2.2.1, ()) ∧
          Need (0 < [(⟨false, g.2.1, []⟩ : Sx), (⟨true, (⟨#[]⟩ : ByteArray), digsX g.2.2.1⟩ : Sx), (⟨(sigX (⟨g.2.2.2.2.2.2.2.2.1, g.2.2.2.2.2.2.2.2.2.1, g.2.2.2.2.2.2.2.2.2.2.1, g.2.2.2.2.2.2.2.2.2.2.2.1⟩ : Sgn)).isList, (sigX (⟨g.2.2.2.2.2.2.2.2.1, g.2.2.2.2.2.2.2.2.2.1, g.2.2.2.2.2.2.2.2.2.2.1, g.2.2.2.2.2.2.2.2.2.2.2.1⟩ : Sgn)).atom, (sigX (⟨g.2.2.2.2.2.2.2.2.1, g.2.2.2.2.2.2.2.2.2.1, g.2.2.2.2.2.2.2.2.2.2.1, g.2.2.2.2.2.2.2.2.2.2.2.1⟩ : Sgn)).list⟩ : Sx)].length) (Room ([(⟨false, s1, []⟩ : Sx)].length + [(⟨false, g.2.1, []⟩ : Sx), (⟨true, (⟨#[]⟩ : ByteArray), digsX g.2.2.1⟩ : Sx), (⟨(sigX (⟨g.2.2.2.2.2.2.2.2.1, g.2.2.2.2.2.2.2.2.2.1, g.2.2.2.2.2.2.2.2.2.2.1, g.2.2.2.2.2.2.2.2.2.2.2.1⟩ : Sgn)).isList, (sigX (⟨g.2.2.2.2.2.2.2.2.1, g.2.2.2.2.2.2.2.2.2.1, g.2.2.2.2.2.2.2.2.2.2.1, g.2.2.2.2.2.2.2.2.2.2.2.1⟩ : Sgn)).atom, (sigX (⟨g.2.2.2.2.2.2.2.2.1, g.2.2.2.2.2.2.2.2.2.1, g.2.2.2.2.2.2.2.2.2.2.1, g.2.2.2.2.2.2.2.2.2.2.2.1⟩ : Sgn)).list⟩ : Sx)].length) 48 (
          F32_J3 K ([(⟨false, s1, []⟩ : Sx)] ++ [(⟨false, g.2.1, []⟩ : Sx), (⟨true, (⟨#[]⟩ : ByteArray), digsX g.2.2.1⟩ : Sx), (⟨(sigX (⟨g.2.2.2.2.2.2.2.2.1, g.2.2.2.2.2.2.2.2.2.1, g.2.2.2.2.2.2.2.2.2.2.1, g.2.2.2.2.2.2.2.2.2.2.2.1⟩ : Sgn)).isList, (sigX (⟨g.2.2.2.2.2.2.2.2.1, g.2.2.2.2.2.2.2.2.2.1, g.2.2.2.2.2.2.2.2.2.2.1, g.2.2.2.2.2.2.2.2.2.2.2.1⟩ : Sgn)).atom, (sigX (⟨g.2.2.2.2.2.2.2.2.1, g.2.2.2.2.2.2.2.2.2.1, g.2.2.2.2.2.2.2.2.2.2.1, g.2.2.2.2.2.2.2.2.2.2.2.1⟩ : Sgn)).list⟩ : Sx)]) false (⟨#[]⟩ : ByteArray))))
        else (
          bif decide (g.1 = 6) then (
            sp53.pre (g.2.2.2.2.2.2.1, ()) ∧
            True ∧
            Need (0 < [(⟨((intB g.2.2.2.2.2.2.1).1).isList, ((intB g.2.2.2.2.2.2.1).1).atom, ((intB g.2.2.2.2.2.2.1).1).list⟩ : Sx), (⟨false, g.2.2.2.2.2.2.2.1, []⟩ : Sx)].length) (Room ([(⟨false, s1, []⟩ : Sx)].length + [(⟨((intB g.2.2.2.2.2.2.1).1).isList, ((intB g.2.2.2.2.2.2.1).1).atom, ((intB g.2.2.2.2.2.2.1).1).list⟩ : Sx), (⟨false, g.2.2.2.2.2.2.2.1, []⟩ : Sx)].length) 48 (
            F32_J3 K ([(⟨false, s1, []⟩ : Sx)] ++ [(⟨((intB g.2.2.2.2.2.2.1).1).isList, ((intB g.2.2.2.2.2.2.1).1).atom, ((intB g.2.2.2.2.2.2.1).1).list⟩ : Sx), (⟨false, g.2.2.2.2.2.2.2.1, []⟩ : Sx)]) false (⟨#[]⟩ : ByteArray))))
          else (
            bif decide (g.1 = 7) then (
              sp50.pre (g.2.2.2.2.2.1, ()) ∧
              bif decide ((atomsX g.2.2.2.2.2.1).length = 0) then (
                F32_J3 K [(⟨false, s1, []⟩ : Sx)] false (⟨#[]⟩ : ByteArray))
              else (
                Need (0 < (atomsX g.2.2.2.2.2.1).length) (Room ([(⟨false, s1, []⟩ : Sx)].length + (atomsX g.2.2.2.2.2.1).length) 48 (
                F32_J3 K ([(⟨false, s1, []⟩ : Sx)] ++ (atomsX g.2.2.2.2.2.1)) false (⟨#[]⟩ : ByteArray)))))
            else (
              F32_J3 K [(⟨false, s1, []⟩ : Sx)] false (⟨#[]⟩ : ByteArray)))))))
theorem F32_eq (g : prodL L32) (K X : Kn) : F32 g K = dfun D (gamX [] [(46, false, sp46), (47, false, sp47), (48, false, sp48), (49, false, sp49), (50, false, sp50), (51, false, sp51), (52, false, sp52), (53, false, sp53)]) (isRaw []) H32 J32 68 [.cell 2 58] (codeOf Tryd.f32) (argsT S32 L32 g) [] (settle0 K) X := by kernel_rfl
theorem F32_ok (g : prodL L32) (K X : Kn) (h : F32 g K) : FCalls Tryd.prog 32 (argsT S32 L32 g) [] K X :=
  FCalls.settle0 (dfun_sound (Γ := gamX [] [(46, false, sp46), (47, false, sp47), (48, false, sp48), (49, false, sp49), (50, false, sp50), (51, false, sp51), (52, false, sp52), (53, false, sp53)]) (mu := isRaw []) (H := H32) (J := J32) D_ok (gamX_ok (rs := []) (l := [(46, false, sp46), (47, false, sp47), (48, false, sp48), (49, false, sp49), (50, false, sp50), (51, false, sp51), (52, false, sp52), (53, false, sp53)]) (fun p hp => by cases hp) (by intro p hp; simp only [List.mem_cons, List.not_mem_nil, or_false] at hp; rcases hp with rfl | rfl | rfl | rfl | rfl | rfl | rfl | rfl <;> first | exact sp46_ok | exact sp47_ok | exact sp48_ok | exact sp49_ok | exact sp50_ok | exact sp51_ok | exact sp52_ok | exact sp53_ok)) gamX_det rfl Tryd.func32 (c := codeOf Tryd.f32) rfl Tryd.ntmps32 (rs := [.cell 2 58]) Tryd.results32 (by unfold enters; rw [Tryd.func32]; kernel_rfl) (Nat.le_of_ble_eq_true (by kernel_rfl)) (X := X) (c0 := 0) (Eq.mp (F32_eq g K X) h))
/-- quilt/proto.check -/
def H24 : List (Nat × Hint) := []
def J24 : List (Nat × Hint) := [(10, ⟨[], [(6, .leaf), (36, .leaf)], [], [.str, .bool]⟩)]
abbrev S24 : List Sh := [.ag [.leaf, .leaf, .leaf, .leaf, .leaf, .leaf, .leaf, .leaf, .leaf, .leaf, .leaf, .leaf]]
abbrev L24 : List Lf := [.int .i64, .str, .sl .dig, .sl .rng, .sl .str, .sl .str, .int .i64, .str, .int .i64, .sl .dig, .sl .dig, .sl .dig]
def F24_J2 (K : Kn) (s_1 : ByteArray) (t_1 : Bool) : Prop :=
  bif t_1 then (
    K (.tu [.str (⟨#[]⟩ : ByteArray), .int .i64 4]) [])
  else (
    K (.tu [.str s_1, .int .i64 0]) [])
def F24 (g : prodL L24) (K : Kn) : Prop :=
  True ∧
  bif !((mfind .ment (.int .i64 g.1) wordsL).isSome) then (
    K (.tu [.str (⟨#[]⟩ : ByteArray), .int .i64 8]) [])
  else (
    sp38.pre (g.1, g.2.1, g.2.2.1, g.2.2.2.1, g.2.2.2.2.1, g.2.2.2.2.2.1, g.2.2.2.2.2.2.1, g.2.2.2.2.2.2.2.1, g.2.2.2.2.2.2.2.2.1, g.2.2.2.2.2.2.2.2.2.1, g.2.2.2.2.2.2.2.2.2.2.1, g.2.2.2.2.2.2.2.2.2.2.2.1, ()) ∧
  sp37.pre ((bare (⟨g.1, g.2.1, g.2.2.1, g.2.2.2.1, g.2.2.2.2.1, g.2.2.2.2.2.1, g.2.2.2.2.2.2.1, g.2.2.2.2.2.2.2.1, ⟨g.2.2.2.2.2.2.2.2.1, g.2.2.2.2.2.2.2.2.2.1, g.2.2.2.2.2.2.2.2.2.2.1, g.2.2.2.2.2.2.2.2.2.2.2.1⟩⟩ : Msg)).kind, (bare (⟨g.1, g.2.1, g.2.2.1, g.2.2.2.1, g.2.2.2.2.1, g.2.2.2.2.2.1, g.2.2.2.2.2.2.1, g.2.2.2.2.2.2.2.1, ⟨g.2.2.2.2.2.2.2.2.1, g.2.2.2.2.2.2.2.2.2.1, g.2.2.2.2.2.2.2.2.2.2.1, g.2.2.2.2.2.2.2.2.2.2.2.1⟩⟩ : Msg)).name, (bare (⟨g.1, g.2.1, g.2.2.1, g.2.2.2.1, g.2.2.2.2.1, g.2.2.2.2.2.1, g.2.2.2.2.2.2.1, g.2.2.2.2.2.2.2.1, ⟨g.2.2.2.2.2.2.2.2.1, g.2.2.2.2.2.2.2.2.2.1, g.2.2.2.2.2.2.2.2.2.2.1, g.2.2.2.2.2.2.2.2.2.2.2.1⟩⟩ : Msg)).ids, (bare (⟨g.1, g.2.1, g.2.2.1, g.2.2.2.1, g.2.2.2.2.1, g.2.2.2.2.2.1, g.2.2.2.2.2.2.1, g.2.2.2.2.2.2.2.1, ⟨g.2.2.2.2.2.2.2.2.1, g.2.2.2.2.2.2.2.2.2.1, g.2.2.2.2.2.2.2.2.2.2.1, g.2.2.2.2.2.2.2.2.2.2.2.1⟩⟩ : Msg)).ranges, (bare (⟨g.1, g.2.1, g.2.2.1, g.2.2.2.1, g.2.2.2.2.1, g.2.2.2.2.2.1, g.2.2.2.2.2.2.1, g.2.2.2.2.2.2.2.1, ⟨g.2.2.2.2.2.2.2.2.1, g.2.2.2.2.2.2.2.2.2.1, g.2.2.2.2.2.2.2.2.2.2.1, g.2.2.2.2.2.2.2.2.2.2.2.1⟩⟩ : Msg)).patches, (bare (⟨g.1, g.2.1, g.2.2.1, g.2.2.2.1, g.2.2.2.2.1, g.2.2.2.2.2.1, g.2.2.2.2.2.2.1, g.2.2.2.2.2.2.2.1, ⟨g.2.2.2.2.2.2.2.2.1, g.2.2.2.2.2.2.2.2.2.1, g.2.2.2.2.2.2.2.2.2.2.1, g.2.2.2.2.2.2.2.2.2.2.2.1⟩⟩ : Msg)).paths, (bare (⟨g.1, g.2.1, g.2.2.1, g.2.2.2.1, g.2.2.2.2.1, g.2.2.2.2.2.1, g.2.2.2.2.2.2.1, g.2.2.2.2.2.2.2.1, ⟨g.2.2.2.2.2.2.2.2.1, g.2.2.2.2.2.2.2.2.2.1, g.2.2.2.2.2.2.2.2.2.2.1, g.2.2.2.2.2.2.2.2.2.2.2.1⟩⟩ : Msg)).code, (bare (⟨g.1, g.2.1, g.2.2.1, g.2.2.2.1, g.2.2.2.2.1, g.2.2.2.2.2.1, g.2.2.2.2.2.2.1, g.2.2.2.2.2.2.2.1, ⟨g.2.2.2.2.2.2.2.2.1, g.2.2.2.2.2.2.2.2.2.1, g.2.2.2.2.2.2.2.2.2.2.1, g.2.2.2.2.2.2.2.2.2.2.2.1⟩⟩ : Msg)).text, (bare (⟨g.1, g.2.1, g.2.2.1, g.2.2.2.1, g.2.2.2.2.1, g.2.2.2.2.2.1, g.2.2.2.2.2.2.1, g.2.2.2.2.2.2.2.1, ⟨g.2.2.2.2.2.2.2.2.1, g.2.2.2.2.2.2.2.2.2.1, g.2.2.2.2.2.2.2.2.2.2.1, g.2.2.2.2.2.2.2.2.2.2.2.1⟩⟩ : Msg)).sig.index, (bare (⟨g.1, g.2.1, g.2.2.1, g.2.2.2.1, g.2.2.2.2.1, g.2.2.2.2.2.1, g.2.2.2.2.2.2.1, g.2.2.2.2.2.2.2.1, ⟨g.2.2.2.2.2.2.2.2.1, g.2.2.2.2.2.2.2.2.2.1, g.2.2.2.2.2.2.2.2.2.2.1, g.2.2.2.2.2.2.2.2.2.2.2.1⟩⟩ : Msg)).sig.revealed, (bare (⟨g.1, g.2.1, g.2.2.1, g.2.2.2.1, g.2.2.2.2.1, g.2.2.2.2.2.1, g.2.2.2.2.2.2.1, g.2.2.2.2.2.2.2.1, ⟨g.2.2.2.2.2.2.2.2.1, g.2.2.2.2.2.2.2.2.2.1, g.2.2.2.2.2.2.2.2.2.2.1, g.2.2.2.2.2.2.2.2.2.2.2.1⟩⟩ : Msg)).sig.others, (bare (⟨g.1, g.2.1, g.2.2.1, g.2.2.2.1, g.2.2.2.2.1, g.2.2.2.2.2.1, g.2.2.2.2.2.2.1, g.2.2.2.2.2.2.2.1, ⟨g.2.2.2.2.2.2.2.2.1, g.2.2.2.2.2.2.2.2.2.1, g.2.2.2.2.2.2.2.2.2.2.1, g.2.2.2.2.2.2.2.2.2.2.2.1⟩⟩ : Msg)).sig.path, ()) ∧
  bif !(emptyB (bare (⟨g.1, g.2.1, g.2.2.1, g.2.2.2.1, g.2.2.2.2.1, g.2.2.2.2.2.1, g.2.2.2.2.2.2.1, g.2.2.2.2.2.2.2.1, ⟨g.2.2.2.2.2.2.2.2.1, g.2.2.2.2.2.2.2.2.2.1, g.2.2.2.2.2.2.2.2.2.2.1, g.2.2.2.2.2.2.2.2.2.2.2.1⟩⟩ : Msg))) then (
    K (.tu [.str (⟨#[]⟩ : ByteArray), .int .i64 1]) [])
  else (
    sp39.pre (g.1, g.2.1, g.2.2.1, g.2.2.2.1, g.2.2.2.2.1, g.2.2.2.2.2.1, g.2.2.2.2.2.2.1, g.2.2.2.2.2.2.2.1, g.2.2.2.2.2.2.2.2.1, g.2.2.2.2.2.2.2.2.2.1, g.2.2.2.2.2.2.2.2.2.2.1, g.2.2.2.2.2.2.2.2.2.2.2.1, ()) ∧
  bif !(numbered (⟨g.1, g.2.1, g.2.2.1, g.2.2.2.1, g.2.2.2.2.1, g.2.2.2.2.2.1, g.2.2.2.2.2.2.1, g.2.2.2.2.2.2.2.1, ⟨g.2.2.2.2.2.2.2.2.1, g.2.2.2.2.2.2.2.2.2.1, g.2.2.2.2.2.2.2.2.2.2.1, g.2.2.2.2.2.2.2.2.2.2.2.1⟩⟩ : Msg)) then (
    K (.tu [.str (⟨#[]⟩ : ByteArray), .int .i64 2]) [])
  else (
    sp41.pre (g.1, g.2.1, g.2.2.1, g.2.2.2.1, g.2.2.2.2.1, g.2.2.2.2.2.1, g.2.2.2.2.2.2.1, g.2.2.2.2.2.2.2.1, g.2.2.2.2.2.2.2.2.1, g.2.2.2.2.2.2.2.2.2.1, g.2.2.2.2.2.2.2.2.2.2.1, g.2.2.2.2.2.2.2.2.2.2.2.1, ()) ∧
  sp40.pre ((sexpX (⟨g.1, g.2.1, g.2.2.1, g.2.2.2.1, g.2.2.2.2.1, g.2.2.2.2.2.1, g.2.2.2.2.2.2.1, g.2.2.2.2.2.2.2.1, ⟨g.2.2.2.2.2.2.2.2.1, g.2.2.2.2.2.2.2.2.2.1, g.2.2.2.2.2.2.2.2.2.2.1, g.2.2.2.2.2.2.2.2.2.2.2.1⟩⟩ : Msg)).isList, (sexpX (⟨g.1, g.2.1, g.2.2.1, g.2.2.2.1, g.2.2.2.2.1, g.2.2.2.2.2.1, g.2.2.2.2.2.2.1, g.2.2.2.2.2.2.2.1, ⟨g.2.2.2.2.2.2.2.2.1, g.2.2.2.2.2.2.2.2.2.1, g.2.2.2.2.2.2.2.2.2.2.1, g.2.2.2.2.2.2.2.2.2.2.2.1⟩⟩ : Msg)).atom, (sexpX (⟨g.1, g.2.1, g.2.2.1, g.2.2.2.1, g.2.2.2.2.1, g.2.2.2.2.2.1, g.2.2.2.2.2.2.1, g.2.2.2.2.2.2.2.1, ⟨g.2.2.2.2.2.2.2.2.1, g.2.2.2.2.2.2.2.2.2.1, g.2.2.2.2.2.2.2.2.2.2.1, g.2.2.2.2.2.2.2.2.2.2.2.1⟩⟩ : Msg)).list, ()) ∧
  bif !decide ((enT ⟨((sexpX (⟨g.1, g.2.1, g.2.2.1, g.2.2.2.1, g.2.2.2.2.1, g.2.2.2.2.2.1, g.2.2.2.2.2.2.1, g.2.2.2.2.2.2.2.1, ⟨g.2.2.2.2.2.2.2.2.1, g.2.2.2.2.2.2.2.2.2.1, g.2.2.2.2.2.2.2.2.2.2.1, g.2.2.2.2.2.2.2.2.2.2.2.1⟩⟩ : Msg)).isList), ((sexpX (⟨g.1, g.2.1, g.2.2.1, g.2.2.2.1, g.2.2.2.2.1, g.2.2.2.2.2.1, g.2.2.2.2.2.2.1, g.2.2.2.2.2.2.2.1, ⟨g.2.2.2.2.2.2.2.2.1, g.2.2.2.2.2.2.2.2.2.1, g.2.2.2.2.2.2.2.2.2.2.1, g.2.2.2.2.2.2.2.2.2.2.2.1⟩⟩ : Msg)).atom), ((sexpX (⟨g.1, g.2.1, g.2.2.1, g.2.2.2.1, g.2.2.2.2.1, g.2.2.2.2.2.1, g.2.2.2.2.2.2.1, g.2.2.2.2.2.2.2.1, ⟨g.2.2.2.2.2.2.2.2.1, g.2.2.2.2.2.2.2.2.2.1, g.2.2.2.2.2.2.2.2.2.2.1, g.2.2.2.2.2.2.2.2.2.2.2.1⟩⟩ : Msg)).list)⟩).2 = 0) then (
    F24_J2 K ((enT ⟨((sexpX (⟨g.1, g.2.1, g.2.2.1, g.2.2.2.1, g.2.2.2.2.1, g.2.2.2.2.2.1, g.2.2.2.2.2.2.1, g.2.2.2.2.2.2.2.1, ⟨g.2.2.2.2.2.2.2.2.1, g.2.2.2.2.2.2.2.2.2.1, g.2.2.2.2.2.2.2.2.2.2.1, g.2.2.2.2.2.2.2.2.2.2.2.1⟩⟩ : Msg)).isList), ((sexpX (⟨g.1, g.2.1, g.2.2.1, g.2.2.2.1, g.2.2.2.2.1, g.2.2.2.2.2.1, g.2.2.2.2.2.2.1, g.2.2.2.2.2.2.2.1, ⟨g.2.2.2.2.2.2.2.2.1, g.2.2.2.2.2.2.2.2.2.1, g.2.2.2.2.2.2.2.2.2.2.1, g.2.2.2.2.2.2.2.2.2.2.2.1⟩⟩ : Msg)).atom), ((sexpX (⟨g.1, g.2.1, g.2.2.1, g.2.2.2.1, g.2.2.2.2.1, g.2.2.2.2.2.1, g.2.2.2.2.2.2.1, g.2.2.2.2.2.2.2.1, ⟨g.2.2.2.2.2.2.2.2.1, g.2.2.2.2.2.2.2.2.2.1, g.2.2.2.2.2.2.2.2.2.2.1, g.2.2.2.2.2.2.2.2.2.2.2.1⟩⟩ : Msg)).list)⟩).1) true)
  else (
    F24_J2 K ((enT ⟨((sexpX (⟨g.1, g.2.1, g.2.2.1, g.2.2.2.1, g.2.2.2.2.1, g.2.2.2.2.2.1, g.2.2.2.2.2.2.1, g.2.2.2.2.2.2.2.1, ⟨g.2.2.2.2.2.2.2.2.1, g.2.2.2.2.2.2.2.2.2.1, g.2.2.2.2.2.2.2.2.2.2.1, g.2.2.2.2.2.2.2.2.2.2.2.1⟩⟩ : Msg)).isList), ((sexpX (⟨g.1, g.2.1, g.2.2.1, g.2.2.2.1, g.2.2.2.2.1, g.2.2.2.2.2.1, g.2.2.2.2.2.2.1, g.2.2.2.2.2.2.2.1, ⟨g.2.2.2.2.2.2.2.2.1, g.2.2.2.2.2.2.2.2.2.1, g.2.2.2.2.2.2.2.2.2.2.1, g.2.2.2.2.2.2.2.2.2.2.2.1⟩⟩ : Msg)).atom), ((sexpX (⟨g.1, g.2.1, g.2.2.1, g.2.2.2.1, g.2.2.2.2.1, g.2.2.2.2.2.1, g.2.2.2.2.2.2.1, g.2.2.2.2.2.2.2.1, ⟨g.2.2.2.2.2.2.2.2.1, g.2.2.2.2.2.2.2.2.2.1, g.2.2.2.2.2.2.2.2.2.2.1, g.2.2.2.2.2.2.2.2.2.2.2.1⟩⟩ : Msg)).list)⟩).1) (decide (65536 < (((enT ⟨((sexpX (⟨g.1, g.2.1, g.2.2.1, g.2.2.2.1, g.2.2.2.2.1, g.2.2.2.2.2.1, g.2.2.2.2.2.2.1, g.2.2.2.2.2.2.2.1, ⟨g.2.2.2.2.2.2.2.2.1, g.2.2.2.2.2.2.2.2.2.1, g.2.2.2.2.2.2.2.2.2.2.1, g.2.2.2.2.2.2.2.2.2.2.2.1⟩⟩ : Msg)).isList), ((sexpX (⟨g.1, g.2.1, g.2.2.1, g.2.2.2.1, g.2.2.2.2.1, g.2.2.2.2.2.1, g.2.2.2.2.2.2.1, g.2.2.2.2.2.2.2.1, ⟨g.2.2.2.2.2.2.2.2.1, g.2.2.2.2.2.2.2.2.2.1, g.2.2.2.2.2.2.2.2.2.2.1, g.2.2.2.2.2.2.2.2.2.2.2.1⟩⟩ : Msg)).atom), ((sexpX (⟨g.1, g.2.1, g.2.2.1, g.2.2.2.1, g.2.2.2.2.1, g.2.2.2.2.2.1, g.2.2.2.2.2.2.1, g.2.2.2.2.2.2.2.1, ⟨g.2.2.2.2.2.2.2.2.1, g.2.2.2.2.2.2.2.2.2.1, g.2.2.2.2.2.2.2.2.2.2.1, g.2.2.2.2.2.2.2.2.2.2.2.1⟩⟩ : Msg)).list)⟩).1).size : Int)))))))
theorem F24_eq (g : prodL L24) (K X : Kn) : F24 g K = dfun D (gamX [] [(34, false, sp34), (37, true, sp37), (38, false, sp38), (39, true, sp39), (40, true, sp40), (41, false, sp41)]) (isRaw []) H24 J24 38 [.tmp 2, .tmp 3] (codeOf Tryd.f24) (argsT S24 L24 g) [] (settle0 K) X := by kernel_rfl
theorem F24_ok (g : prodL L24) (K X : Kn) (h : F24 g K) : FCalls Tryd.prog 24 (argsT S24 L24 g) [] K X :=
  FCalls.settle0 (dfun_sound (Γ := gamX [] [(34, false, sp34), (37, true, sp37), (38, false, sp38), (39, true, sp39), (40, true, sp40), (41, false, sp41)]) (mu := isRaw []) (H := H24) (J := J24) D_ok (gamX_ok (rs := []) (l := [(34, false, sp34), (37, true, sp37), (38, false, sp38), (39, true, sp39), (40, true, sp40), (41, false, sp41)]) (fun p hp => by cases hp) (by intro p hp; simp only [List.mem_cons, List.not_mem_nil, or_false] at hp; rcases hp with rfl | rfl | rfl | rfl | rfl | rfl <;> first | exact sp34_ok | exact sp37_ok | exact sp38_ok | exact sp39_ok | exact sp40_ok | exact sp41_ok)) gamX_det rfl Tryd.func24 (c := codeOf Tryd.f24) rfl Tryd.ntmps24 (rs := [.tmp 2, .tmp 3]) Tryd.results24 (by unfold enters; rw [Tryd.func24]; kernel_rfl) (Nat.le_of_ble_eq_true (by kernel_rfl)) (X := X) (c0 := 0) (Eq.mp (F24_eq g K X) h))
/-- quilt/quiltref50.SameMessages -/
def H14 : List (Nat × Hint) := [(4, ⟨[], [(0, .leaf), (1, .leaf), (5, .leaf)], [], [.sl .msg, .sl .msg, .int .i64]⟩)]
def J14 : List (Nat × Hint) := []
abbrev S14 : List Sh := [.leaf, .leaf]
abbrev L14 : List Lf := [.sl .msg, .sl .msg]
def F14_B2 (K : Kn) (W2 : prodL [.sl .msg, .sl .msg, .int .i64] → Prop) (a_1 : List Msg) (b_1 : List Msg) (i_1 : Int) : Prop :=
  bif decide (i_1 < (a_1.length : Int)) then (
    At a_1 i_1 fun u3 =>
  At b_1 i_1 fun u4 =>
  sp17.pre (u3.kind, u3.name, u3.ids, u3.ranges, u3.patches, u3.paths, u3.code, u3.text, u3.sig.index, u3.sig.revealed, u3.sig.others, u3.sig.path, u4.kind, u4.name, u4.ids, u4.ranges, u4.patches, u4.paths, u4.code, u4.text, u4.sig.index, u4.sig.revealed, u4.sig.others, u4.sig.path, ()) ∧
  bif !(decide (u3 = u4)) then (
    K (.bool false) [])
  else (
    W2 (a_1, b_1, IntKind.i64.wrap (i_1 + 1), ())))
  else (
    K (.bool true) [])
def F14_L2 (K : Kn) (g : prodL [.sl .msg, .sl .msg, .int .i64]) : Prop :=
  LoopW (γ := prodL [.sl .msg, .sl .msg, .int .i64]) (fun V y => F14_B2 K V y.1 y.2.1 y.2.2.1) g
def F14 (g : prodL L14) (K : Kn) : Prop :=
  bif !decide ((g.1.length : Int) = (g.2.1.length : Int)) then (
    K (.bool false) [])
  else (
    F14_L2 K (g.1, g.2.1, 0, ()))
theorem F14_eq (g : prodL L14) (K X : Kn) : F14 g K = dfun D (gamX [] [(17, true, sp17)]) (isRaw []) H14 J14 27 [.tmp 4] (codeOf Tryd.f14) (argsT S14 L14 g) [] (settle0 K) X := by kernel_rfl
theorem F14_ok (g : prodL L14) (K X : Kn) (h : F14 g K) : FCalls Tryd.prog 14 (argsT S14 L14 g) [] K X :=
  FCalls.settle0 (dfun_sound (Γ := gamX [] [(17, true, sp17)]) (mu := isRaw []) (H := H14) (J := J14) D_ok (gamX_ok (rs := []) (l := [(17, true, sp17)]) (fun p hp => by cases hp) (by intro p hp; simp only [List.mem_cons, List.not_mem_nil, or_false] at hp; subst hp; exact sp17_ok)) gamX_det rfl Tryd.func14 (c := codeOf Tryd.f14) rfl Tryd.ntmps14 (rs := [.tmp 4]) Tryd.results14 (by unfold enters; rw [Tryd.func14]; kernel_rfl) (Nat.le_of_ble_eq_true (by kernel_rfl)) (X := X) (c0 := 0) (Eq.mp (F14_eq g K X) h))
end Go.Proofs.YtoclmkbjgmgekaaDoor
