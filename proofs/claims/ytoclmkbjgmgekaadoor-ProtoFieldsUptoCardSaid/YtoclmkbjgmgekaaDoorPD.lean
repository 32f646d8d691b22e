/- What functions come to: printed by exf.py. -/
import Derived.Test.YtoclmkbjgmgekaaDoorP3
namespace Go.Proofs.YtoclmkbjgmgekaaDoor
set_option linter.unusedVariables false
set_option linter.unusedSimpArgs false
set_option linter.unusedSectionVars false
open Go.RowKit
attribute [local irreducible] dfun dround
/-- quilt/quiltref50.ranges -/
def H48 : List (Nat × Hint) := [(3, ⟨[((3, []), some .sexp)], [(0, .leaf), (3, .oa .sexp 0), (4, .leaf)], [.arr .sexp], [.sl .rng, .int .i64, .sl .sexp]⟩)]
def J48 : List (Nat × Hint) := []
abbrev S48 : List Sh := [.leaf]
abbrev L48 : List Lf := [.sl .rng]
def F48_B5 (K : Kn) (W5 : prodL [.sl .rng, .int .i64, .sl .sexp] → Prop) (l_4 : List Rng) (i_4 : Int) (out_4 : List Sx) : Prop :=
  bif decide (i_4 < (l_4.length : Int)) then (
    At l_4 i_4 fun u6 =>
  True ∧
  True ∧
  True ∧
  sp53.pre (u6.count, ()) ∧
  True ∧
  sp49.pre (u6.ids, ()) ∧
  True ∧
  True ∧
  Room (out_4.length + [(⟨true, (⟨#[]⟩ : ByteArray), [(⟨false, dstr u6.low, []⟩ : Sx), (⟨false, dstr u6.high, []⟩ : Sx), (⟨false, truB u6.listed, []⟩ : Sx), (⟨((intB u6.count).1).isList, ((intB u6.count).1).atom, ((intB u6.count).1).list⟩ : Sx), (⟨false, dstr u6.print, []⟩ : Sx), (⟨true, (⟨#[]⟩ : ByteArray), digsX u6.ids⟩ : Sx)]⟩ : Sx)].length) 48 (
  W5 (l_4, IntKind.i64.wrap (i_4 + 1), out_4 ++ [(⟨true, (⟨#[]⟩ : ByteArray), [(⟨false, dstr u6.low, []⟩ : Sx), (⟨false, dstr u6.high, []⟩ : Sx), (⟨false, truB u6.listed, []⟩ : Sx), (⟨((intB u6.count).1).isList, ((intB u6.count).1).atom, ((intB u6.count).1).list⟩ : Sx), (⟨false, dstr u6.print, []⟩ : Sx), (⟨true, (⟨#[]⟩ : ByteArray), digsX u6.ids⟩ : Sx)]⟩ : Sx)], ())))
  else (
    K (.sl false .sexp out_4) [])
def F48_L5 (K : Kn) (g : prodL [.sl .rng, .int .i64, .sl .sexp]) : Prop :=
  LoopW (γ := prodL [.sl .rng, .int .i64, .sl .sexp]) (fun V y => F48_B5 K V y.1 y.2.1 y.2.2.1) g
def F48 (g : prodL L48) (K : Kn) : Prop :=
  F48_L5 K (g.1, 0, [], ())
theorem F48_eq (g : prodL L48) (K X : Kn) : F48 g K = dfun D (gamX [] [(49, false, sp49), (51, false, sp51), (53, false, sp53), (86, false, sp86), (87, false, sp87)]) (isRaw []) H48 J48 42 [.tmp 2] (codeOf Tryd.f48) (argsT S48 L48 g) [] (settle0 K) X := by kernel_rfl
theorem F48_ok (g : prodL L48) (K X : Kn) (h : F48 g K) : FCalls Tryd.prog 48 (argsT S48 L48 g) [] K X :=
  FCalls.settle0 (dfun_sound (Γ := gamX [] [(49, false, sp49), (51, false, sp51), (53, false, sp53), (86, false, sp86), (87, false, sp87)]) (mu := isRaw []) (H := H48) (J := J48) D_ok (gamX_ok (rs := []) (l := [(49, false, sp49), (51, false, sp51), (53, false, sp53), (86, false, sp86), (87, false, sp87)]) (fun p hp => by cases hp) (by intro p hp; simp only [List.mem_cons, List.not_mem_nil, or_false] at hp; rcases hp with rfl | rfl | rfl | rfl | rfl <;> first | exact sp49_ok | exact sp51_ok | exact sp53_ok | exact sp86_ok | exact sp87_ok)) gamX_det rfl Tryd.func48 (c := codeOf Tryd.f48) rfl Tryd.ntmps48 (rs := [.tmp 2]) Tryd.results48 (by unfold enters; rw [Tryd.func48]; kernel_rfl) (Nat.le_of_ble_eq_true (by kernel_rfl)) (X := X) (c0 := 0) (Eq.mp (F48_eq g K X) h))
/-- quilt/quiltref50.signature -/
def H52 : List (Nat × Hint) := []
def J52 : List (Nat × Hint) := []
abbrev S52 : List Sh := [.ag [.leaf, .leaf, .leaf, .leaf]]
abbrev L52 : List Lf := [.int .i64, .sl .dig, .sl .dig, .sl .dig]
def F52 (g : prodL L52) (K : Kn) : Prop :=
  sp53.pre (g.1, ()) ∧
  sp49.pre (g.2.1, ()) ∧
  True ∧
  sp49.pre (g.2.2.1, ()) ∧
  True ∧
  sp49.pre (g.2.2.2.1, ()) ∧
  True ∧
  True ∧
  K (.ag [.bool true, .str (⟨#[]⟩ : ByteArray), .sl false .sexp [(⟨((intB g.1).1).isList, ((intB g.1).1).atom, ((intB g.1).1).list⟩ : Sx), (⟨true, (⟨#[]⟩ : ByteArray), digsX g.2.1⟩ : Sx), (⟨true, (⟨#[]⟩ : ByteArray), digsX g.2.2.1⟩ : Sx), (⟨true, (⟨#[]⟩ : ByteArray), digsX g.2.2.2.1⟩ : Sx)]]) []
theorem F52_eq (g : prodL L52) (K X : Kn) : F52 g K = dfun D (gamX [] [(49, false, sp49), (51, false, sp51), (53, false, sp53)]) (isRaw []) H52 J52 20 [.cell 2 58] (codeOf Tryd.f52) (argsT S52 L52 g) [] (settle0 K) X := by kernel_rfl
theorem F52_ok (g : prodL L52) (K X : Kn) (h : F52 g K) : FCalls Tryd.prog 52 (argsT S52 L52 g) [] K X :=
  FCalls.settle0 (dfun_sound (Γ := gamX [] [(49, false, sp49), (51, false, sp51), (53, false, sp53)]) (mu := isRaw []) (H := H52) (J := J52) D_ok (gamX_ok (rs := []) (l := [(49, false, sp49), (51, false, sp51), (53, false, sp53)]) (fun p hp => by cases hp) (by intro p hp; simp only [List.mem_cons, List.not_mem_nil, or_false] at hp; rcases hp with rfl | rfl | rfl <;> first | exact sp49_ok | exact sp51_ok | exact sp53_ok)) gamX_det rfl Tryd.func52 (c := codeOf Tryd.f52) rfl Tryd.ntmps52 (rs := [.cell 2 58]) Tryd.results52 (by unfold enters; rw [Tryd.func52]; kernel_rfl) (Nat.le_of_ble_eq_true (by kernel_rfl)) (X := X) (c0 := 0) (Eq.mp (F52_eq g K X) h))
/-- quilt/proto.sexp -/
def H41 : List (Nat × Hint) := [(5, ⟨[((2, []), none), ((3, []), none)], [(2, .pt 0 0), (3, .oa .sexp 1), (17, .leaf), (18, .leaf), (19, .leaf)], [.cells [.leaf, .leaf, .nil], .arr .sexp], [.sl .rng, .int .i64, .int .i64, .bool, .str, .sl .sexp]⟩), (1000005, ⟨[], [], [], []⟩)]
def J41 : List (Nat × Hint) := [(19, ⟨[((2, []), none)], [(2, .pt 0 0), (3, .leaf)], [.cells [.leaf, .leaf, .nil]], [.sl .sexp, .bool, .str]⟩)]
abbrev S41 : List Sh := [.ag [.leaf, .leaf, .leaf, .leaf, .leaf, .leaf, .leaf, .leaf, .leaf, .leaf, .leaf, .leaf]]
abbrev L41 : List Lf := [.int .i64, .str, .sl .dig, .sl .rng, .sl .str, .sl .str, .int .i64, .str, .int .i64, .sl .dig, .sl .dig, .sl .dig]
def F41_J6 (K : Kn) (l_5 : List Sx) (t1_5 : Bool) (t2_5 : ByteArray) : Prop :=
  True ∧
  K (.ag [.bool true, .str (⟨#[]⟩ : ByteArray), .sl false .sexp l_5]) []
def F41_B3 (K : Kn) (W3 : prodL [.sl .rng, .int .i64, .int .i64, .bool, .str, .sl .sexp] → Prop) (t_2 : List Rng) (t2_2 : Int) (t3_2 : Int) (t1_2 : Bool) (t22_2 : ByteArray) (l_2 : List Sx) : Prop :=
  bif decide (t3_2 < t2_2) then (
      At t_2 t3_2 fun u4 =>
    sp77.pre (u4.low.b0, u4.low.b1, u4.low.b2, u4.low.b3, u4.low.b4, u4.low.b5, u4.low.b6, u4.low.b7, u4.low.b8, u4.low.b9, u4.low.b10, u4.low.b11, u4.low.b12, u4.low.b13, u4.low.b14, u4.low.b15, u4.low.b16, u4.low.b17, u4.low.b18, u4.low.b19, u4.low.b20, u4.low.b21, u4.low.b22, u4.low.b23, u4.low.b24, u4.low.b25, u4.low.b26, u4.low.b27, u4.low.b28, u4.low.b29, u4.low.b30, u4.low.b31, u4.high.b0, u4.high.b1, u4.high.b2, u4.high.b3, u4.high.b4, u4.high.b5, u4.high.b6, u4.high.b7, u4.high.b8, u4.high.b9, u4.high.b10, u4.high.b11, u4.high.b12, u4.high.b13, u4.high.b14, u4.high.b15, u4.high.b16, u4.high.b17, u4.high.b18, u4.high.b19, u4.high.b20, u4.high.b21, u4.high.b22, u4.high.b23, u4.high.b24, u4.high.b25, u4.high.b26, u4.high.b27, u4.high.b28, u4.high.b29, u4.high.b30, u4.high.b31, u4.listed, u4.count, u4.print.b0, u4.print.b1, u4.print.b2, u4.print.b3, u4.print.b4, u4.print.b5, u4.print.b6, u4.print.b7, u4.print.b8, u4.print.b9, u4.print.b10, u4.print.b11, u4.print.b12, u4.print.b13, u4.print.b14, u4.print.b15, u4.print.b16, u4.print.b17, u4.print.b18, u4.print.b19, u4.print.b20, u4.print.b21, u4.print.b22, u4.print.b23, u4.print.b24, u4.print.b25, u4.print.b26, u4.print.b27, u4.print.b28, u4.print.b29, u4.print.b30, u4.print.b31, u4.ids, ()) ∧
    Room (l_2.length + [(⟨(spanX u4).isList, (spanX u4).atom, (spanX u4).list⟩ : Sx)].length) 48 (
    W3 (t_2, t2_2, IntKind.i64.wrap (t3_2 + 1), t1_2, t22_2, l_2 ++ [(⟨(spanX u4).isList, (spanX u4).atom, (spanX u4).list⟩ : Sx)], ())))
    else (
      F41_J6 K l_2 t1_2 t22_2)
def F41_L3 (K : Kn) (g : prodL [.sl .rng, .int .i64, .int .i64, .bool, .str, .sl .sexp]) : Prop :=
  LoopW (γ := prodL [.sl .rng, .int .i64, .int .i64, .bool, .str, .sl .sexp]) (fun V y => F41_B3 K V y.1 y.2.1 y.2.2.1 y.2.2.2.1 y.2.2.2.2.1 y.2.2.2.2.2.1) g
def F41 (g : prodL L41) (K : Kn) : Prop :=
  True ∧
  True ∧
  bif decide (g.1 = 1) then (
    bif decide ((0 : Int) < (g.2.2.2.1.length : Int)) then (
      At g.2.2.2.1 0 fun u1 =>
    sp77.pre (u1.low.b0, u1.low.b1, u1.low.b2, u1.low.b3, u1.low.b4, u1.low.b5, u1.low.b6, u1.low.b7, u1.low.b8, u1.low.b9, u1.low.b10, u1.low.b11, u1.low.b12, u1.low.b13, u1.low.b14, u1.low.b15, u1.low.b16, u1.low.b17, u1.low.b18, u1.low.b19, u1.low.b20, u1.low.b21, u1.low.b22, u1.low.b23, u1.low.b24, u1.low.b25, u1.low.b26, u1.low.b27, u1.low.b28, u1.low.b29, u1.low.b30, u1.low.b31, u1.high.b0, u1.high.b1, u1.high.b2, u1.high.b3, u1.high.b4, u1.high.b5, u1.high.b6, u1.high.b7, u1.high.b8, u1.high.b9, u1.high.b10, u1.high.b11, u1.high.b12, u1.high.b13, u1.high.b14, u1.high.b15, u1.high.b16, u1.high.b17, u1.high.b18, u1.high.b19, u1.high.b20, u1.high.b21, u1.high.b22, u1.high.b23, u1.high.b24, u1.high.b25, u1.high.b26, u1.high.b27, u1.high.b28, u1.high.b29, u1.high.b30, u1.high.b31, u1.listed, u1.count, u1.print.b0, u1.print.b1, u1.print.b2, u1.print.b3, u1.print.b4, u1.print.b5, u1.print.b6, u1.print.b7, u1.print.b8, u1.print.b9, u1.print.b10, u1.print.b11, u1.print.b12, u1.print.b13, u1.print.b14, u1.print.b15, u1.print.b16, u1.print.b17, u1.print.b18, u1.print.b19, u1.print.b20, u1.print.b21, u1.print.b22, u1.print.b23, u1.print.b24, u1.print.b25, u1.print.b26, u1.print.b27, u1.print.b28, u1.print.b29, u1.print.b30, u1.print.b31, u1.ids, ()) ∧
    Need (0 < [(⟨(spanX u1).isList, (spanX u1).atom, (spanX u1).list⟩ : Sx)].length) (Room ([(⟨false, (match mfind .ment (.int .i64 g.1) wordsL with | some x => x.val | none => (⟨#[]⟩ : ByteArray)), []⟩ : Sx)].length + [(⟨(spanX u1).isList, (spanX u1).atom, (spanX u1).list⟩ : Sx)].length) 48 (
    F41_L3 K (g.2.2.2.1, (g.2.2.2.1.length : Int), IntKind.i64.wrap (0 + 1), false, (⟨#[]⟩ : ByteArray), [(⟨false, (match mfind .ment (.int .i64 g.1) wordsL with | some x => x.val | none => (⟨#[]⟩ : ByteArray)), []⟩ : Sx)] ++ [(⟨(spanX u1).isList, (spanX u1).atom, (spanX u1).list⟩ : Sx)], ()))))
    else (
      F41_J6 K [(⟨false, (match mfind .ment (.int .i64 g.1) wordsL with | some x => x.val | none => (⟨#[]⟩ : ByteArray)), []⟩ : Sx)] false (⟨#[]⟩ : ByteArray)))
  else (
    bif decide (g.1 = 2) then (
      sp78.pre (g.2.2.1, ()) ∧
      bif decide ((digsX g.2.2.1).length = 0) then (
        F41_J6 K [(⟨false, (match mfind .ment (.int .i64 g.1) wordsL with | some x => x.val | none => (⟨#[]⟩ : ByteArray)), []⟩ : Sx)] false (⟨#[]⟩ : ByteArray))
      else (
        Need (0 < (digsX g.2.2.1).length) (Room ([(⟨false, (match mfind .ment (.int .i64 g.1) wordsL with | some x => x.val | none => (⟨#[]⟩ : ByteArray)), []⟩ : Sx)].length + (digsX g.2.2.1).length) 48 (
        F41_J6 K ([(⟨false, (match mfind .ment (.int .i64 g.1) wordsL with | some x => x.val | none => (⟨#[]⟩ : ByteArray)), []⟩ : Sx)] ++ (digsX g.2.2.1)) false (⟨#[]⟩ : ByteArray)))))
    else (
      bif decide (g.1 = 3) then (
        sp79.pre (g.2.2.2.2.1, ()) ∧
        bif decide ((atomsX g.2.2.2.2.1).length = 0) then (
          F41_J6 K [(⟨false, (match mfind .ment (.int .i64 g.1) wordsL with | some x => x.val | none => (⟨#[]⟩ : ByteArray)), []⟩ : Sx)] false (⟨#[]⟩ : ByteArray))
        else (
          Need (0 < (atomsX g.2.2.2.2.1).length) (Room ([(⟨false, (match mfind .ment (.int .i64 g.1) wordsL with | some x => x.val | none => (⟨#[]⟩ : ByteArray)), []⟩ : Sx)].length + (atomsX g.2.2.2.2.1).length) 48 (
          F41_J6 K ([(⟨false, (match mfind .ment (.int .i64 g.1) wordsL with | some x => x.val | none => (⟨#[]⟩ : ByteArray)), []⟩ : Sx)] ++ (atomsX g.2.2.2.2.1)) false (⟨#[]⟩ : ByteArray)))))
      else (
        bif decide (g.1 = 5) then (
          True ∧
          sp78.pre (g.2.2.1, ()) ∧
          True ∧
          sp81.pre (g.2.2.2.2.2.2.2.2.1, g.2.2.2.2.2.2.2.2.2.1, g.2.2.2.2.2.2.2.2.2.2.1, g.2.2.2.2.2.2.2.2.2.2.2.1, ()) ∧
          Need (0 < [(⟨false, g.2.1, []⟩ : Sx), (⟨true, (⟨#[]⟩ : ByteArray), digsX g.2.2.1⟩ : Sx), (⟨(sigX (⟨g.2.2.2.2.2.2.2.2.1, g.2.2.2.2.2.2.2.2.2.1, g.2.2.2.2.2.2.2.2.2.2.1, g.2.2.2.2.2.2.2.2.2.2.2.1⟩ : Sgn)).isList, (sigX (⟨g.2.2.2.2.2.2.2.2.1, g.2.2.2.2.2.2.2.2.2.1, g.2.2.2.2.2.2.2.2.2.2.1, g.2.2.2.2.2.2.2.2.2.2.2.1⟩ : Sgn)).atom, (sigX (⟨g.2.2.2.2.2.2.2.2.1, g.2.2.2.2.2.2.2.2.2.1, g.2.2.2.2.2.2.2.2.2.2.1, g.2.2.2.2.2.2.2.2.2.2.2.1⟩ : Sgn)).list⟩ : Sx)].length) (Room ([(⟨false, (match mfind .ment (.int .i64 g.1) wordsL with | some x => x.val | none => (⟨#[]⟩ : ByteArray)), []⟩ : Sx)].length + [(⟨false, g.2.1, []⟩ : Sx), (⟨true, (⟨#[]⟩ : ByteArray), digsX g.2.2.1⟩ : Sx), (⟨(sigX (⟨g.2.2.2.2.2.2.2.2.1, g.2.2.2.2.2.2.2.2.2.1, g.2.2.2.2.2.2.2.2.2.2.1, g.2.2.2.2.2.2.2.2.2.2.2.1⟩ : Sgn)).isList, (sigX (⟨g.2.2.2.2.2.2.2.2.1, g.2.2.2.2.2.2.2.2.2.1, g.2.2.2.2.2.2.2.2.2.2.1, g.2.2.2.2.2.2.2.2.2.2.2.1⟩ : Sgn)).atom, (sigX (⟨g.2.2.2.2.2.2.2.2.1, g.2.2.2.2.2.2.2.2.2.1, g.2.2.2.2.2.2.2.2.2.2.1, g.2.2.2.2.2.2.2.2.2.2.2.1⟩ : Sgn)).list⟩ : Sx)].length) 48 (
          F41_J6 K ([(⟨false, (match mfind .ment (.int .i64 g.1) wordsL with | some x => x.val | none => (⟨#[]⟩ : ByteArray)), []⟩ : Sx)] ++ [(⟨false, g.2.1, []⟩ : Sx), (⟨true, (⟨#[]⟩ : ByteArray), digsX g.2.2.1⟩ : Sx), (⟨(sigX (⟨g.2.2.2.2.2.2.2.2.1, g.2.2.2.2.2.2.2.2.2.1, g.2.2.2.2.2.2.2.2.2.2.1, g.2.2.2.2.2.2.2.2.2.2.2.1⟩ : Sgn)).isList, (sigX (⟨g.2.2.2.2.2.2.2.2.1, g.2.2.2.2.2.2.2.2.2.1, g.2.2.2.2.2.2.2.2.2.2.1, g.2.2.2.2.2.2.2.2.2.2.2.1⟩ : Sgn)).atom, (sigX (⟨g.2.2.2.2.2.2.2.2.1, g.2.2.2.2.2.2.2.2.2.1, g.2.2.2.2.2.2.2.2.2.2.1, g.2.2.2.2.2.2.2.2.2.2.2.1⟩ : Sgn)).list⟩ : Sx)]) false (⟨#[]⟩ : ByteArray))))
        else (
          bif decide (g.1 = 6) then (
            sp82.pre (g.2.2.2.2.2.2.1, ()) ∧
            True ∧
            Need (0 < [(⟨((intB g.2.2.2.2.2.2.1).1).isList, ((intB g.2.2.2.2.2.2.1).1).atom, ((intB g.2.2.2.2.2.2.1).1).list⟩ : Sx), (⟨false, g.2.2.2.2.2.2.2.1, []⟩ : Sx)].length) (Room ([(⟨false, (match mfind .ment (.int .i64 g.1) wordsL with | some x => x.val | none => (⟨#[]⟩ : ByteArray)), []⟩ : Sx)].length + [(⟨((intB g.2.2.2.2.2.2.1).1).isList, ((intB g.2.2.2.2.2.2.1).1).atom, ((intB g.2.2.2.2.2.2.1).1).list⟩ : Sx), (⟨false, g.2.2.2.2.2.2.2.1, []⟩ : Sx)].length) 48 (
            F41_J6 K ([(⟨false, (match mfind .ment (.int .i64 g.1) wordsL with | some x => x.val | none => (⟨#[]⟩ : ByteArray)), []⟩ : Sx)] ++ [(⟨((intB g.2.2.2.2.2.2.1).1).isList, ((intB g.2.2.2.2.2.2.1).1).atom, ((intB g.2.2.2.2.2.2.1).1).list⟩ : Sx), (⟨false, g.2.2.2.2.2.2.2.1, []⟩ : Sx)]) false (⟨#[]⟩ : ByteArray))))
          else (
            bif decide (g.1 = 7) then (
              sp79.pre (g.2.2.2.2.2.1, ()) ∧
              bif decide ((atomsX g.2.2.2.2.2.1).length = 0) then (
                F41_J6 K [(⟨false, (match mfind .ment (.int .i64 g.1) wordsL with | some x => x.val | none => (⟨#[]⟩ : ByteArray)), []⟩ : Sx)] false (⟨#[]⟩ : ByteArray))
              else (
                Need (0 < (atomsX g.2.2.2.2.2.1).length) (Room ([(⟨false, (match mfind .ment (.int .i64 g.1) wordsL with | some x => x.val | none => (⟨#[]⟩ : ByteArray)), []⟩ : Sx)].length + (atomsX g.2.2.2.2.2.1).length) 48 (
                F41_J6 K ([(⟨false, (match mfind .ment (.int .i64 g.1) wordsL with | some x => x.val | none => (⟨#[]⟩ : ByteArray)), []⟩ : Sx)] ++ (atomsX g.2.2.2.2.2.1)) false (⟨#[]⟩ : ByteArray)))))
            else (
              F41_J6 K [(⟨false, (match mfind .ment (.int .i64 g.1) wordsL with | some x => x.val | none => (⟨#[]⟩ : ByteArray)), []⟩ : Sx)] false (⟨#[]⟩ : ByteArray)))))))
theorem F41_eq (g : prodL L41) (K X : Kn) : F41 g K = dfun D (gamX [] [(34, false, sp34), (76, false, sp76), (77, false, sp77), (78, false, sp78), (79, false, sp79), (80, false, sp80), (81, false, sp81), (82, false, sp82)]) (isRaw []) H41 J41 78 [.cell 2 58] (codeOf Tryd.f41) (argsT S41 L41 g) [] (settle0 K) X := by kernel_rfl
theorem F41_ok (g : prodL L41) (K X : Kn) (h : F41 g K) : FCalls Tryd.prog 41 (argsT S41 L41 g) [] K X :=
  FCalls.settle0 (dfun_sound (Γ := gamX [] [(34, false, sp34), (76, false, sp76), (77, false, sp77), (78, false, sp78), (79, false, sp79), (80, false, sp80), (81, false, sp81), (82, false, sp82)]) (mu := isRaw []) (H := H41) (J := J41) D_ok (gamX_ok (rs := []) (l := [(34, false, sp34), (76, false, sp76), (77, false, sp77), (78, false, sp78), (79, false, sp79), (80, false, sp80), (81, false, sp81), (82, false, sp82)]) (fun p hp => by cases hp) (by intro p hp; simp only [List.mem_cons, List.not_mem_nil, or_false] at hp; rcases hp with rfl | rfl | rfl | rfl | rfl | rfl | rfl | rfl <;> first | exact sp34_ok | exact sp76_ok | exact sp77_ok | exact sp78_ok | exact sp79_ok | exact sp80_ok | exact sp81_ok | exact sp82_ok)) gamX_det rfl Tryd.func41 (c := codeOf Tryd.f41) rfl Tryd.ntmps41 (rs := [.cell 2 58]) Tryd.results41 (by unfold enters; rw [Tryd.func41]; kernel_rfl) (Nat.le_of_ble_eq_true (by kernel_rfl)) (X := X) (c0 := 0) (Eq.mp (F41_eq g K X) h))
/-- quilt/quiltref50.Same -/
def H17 : List (Nat × Hint) := []
def J17 : List (Nat × Hint) := []
abbrev S17 : List Sh := [.ag [.leaf, .leaf, .leaf, .leaf, .leaf, .leaf, .leaf, .leaf, .leaf, .leaf, .leaf, .leaf], .ag [.leaf, .leaf, .leaf, .leaf, .leaf, .leaf, .leaf, .leaf, .leaf, .leaf, .leaf, .leaf]]
abbrev L17 : List Lf := [.int .i64, .str, .sl .dig, .sl .rng, .sl .str, .sl .str, .int .i64, .str, .int .i64, .sl .dig, .sl .dig, .sl .dig, .int .i64, .str, .sl .dig, .sl .rng, .sl .str, .sl .str, .int .i64, .str, .int .i64, .sl .dig, .sl .dig, .sl .dig]
def F17 (g : prodL L17) (K : Kn) : Prop :=
  bif decide (g.1 = g.2.2.2.2.2.2.2.2.2.2.2.2.1) then (
    bif decide (g.2.1 = g.2.2.2.2.2.2.2.2.2.2.2.2.2.1) then (
      bif decide (g.2.2.2.2.2.2.1 = g.2.2.2.2.2.2.2.2.2.2.2.2.2.2.2.2.2.2.1) then (
        bif decide (g.2.2.2.2.2.2.2.1 = g.2.2.2.2.2.2.2.2.2.2.2.2.2.2.2.2.2.2.2.1) then (
          sp25.pre (g.2.2.1, g.2.2.2.2.2.2.2.2.2.2.2.2.2.2.1, ()) ∧
          bif decide (g.2.2.1 = g.2.2.2.2.2.2.2.2.2.2.2.2.2.2.1) then (
            sp26.pre (g.2.2.2.1, g.2.2.2.2.2.2.2.2.2.2.2.2.2.2.2.1, ()) ∧
            bif decide (g.2.2.2.1 = g.2.2.2.2.2.2.2.2.2.2.2.2.2.2.2.1) then (
              sp27.pre (g.2.2.2.2.1, g.2.2.2.2.2.2.2.2.2.2.2.2.2.2.2.2.1, ()) ∧
              bif decide (g.2.2.2.2.1 = g.2.2.2.2.2.2.2.2.2.2.2.2.2.2.2.2.1) then (
                sp27.pre (g.2.2.2.2.2.1, g.2.2.2.2.2.2.2.2.2.2.2.2.2.2.2.2.2.1, ()) ∧
                bif decide (g.2.2.2.2.2.1 = g.2.2.2.2.2.2.2.2.2.2.2.2.2.2.2.2.2.1) then (
                  sp28.pre (g.2.2.2.2.2.2.2.2.1, g.2.2.2.2.2.2.2.2.2.1, g.2.2.2.2.2.2.2.2.2.2.1, g.2.2.2.2.2.2.2.2.2.2.2.1, g.2.2.2.2.2.2.2.2.2.2.2.2.2.2.2.2.2.2.2.2.1, g.2.2.2.2.2.2.2.2.2.2.2.2.2.2.2.2.2.2.2.2.2.1, g.2.2.2.2.2.2.2.2.2.2.2.2.2.2.2.2.2.2.2.2.2.2.1, g.2.2.2.2.2.2.2.2.2.2.2.2.2.2.2.2.2.2.2.2.2.2.2.1, ()) ∧
                  K (.bool (decide ((⟨g.2.2.2.2.2.2.2.2.1, g.2.2.2.2.2.2.2.2.2.1, g.2.2.2.2.2.2.2.2.2.2.1, g.2.2.2.2.2.2.2.2.2.2.2.1⟩ : Sgn) = (⟨g.2.2.2.2.2.2.2.2.2.2.2.2.2.2.2.2.2.2.2.2.1, g.2.2.2.2.2.2.2.2.2.2.2.2.2.2.2.2.2.2.2.2.2.1, g.2.2.2.2.2.2.2.2.2.2.2.2.2.2.2.2.2.2.2.2.2.2.1, g.2.2.2.2.2.2.2.2.2.2.2.2.2.2.2.2.2.2.2.2.2.2.2.1⟩ : Sgn)))) [])
                else (
                  K (.bool false) []))
              else (
                K (.bool false) []))
            else (
              K (.bool false) []))
          else (
            K (.bool false) []))
        else (
          K (.bool false) []))
      else (
        K (.bool false) []))
    else (
      K (.bool false) []))
  else (
    K (.bool false) [])
theorem F17_eq (g : prodL L17) (K X : Kn) : F17 g K = dfun D (gamX [] [(25, true, sp25), (26, true, sp26), (27, true, sp27), (28, true, sp28)]) (isRaw []) H17 J17 66 [.tmp 4] (codeOf Tryd.f17) (argsT S17 L17 g) [] (settle0 K) X := by kernel_rfl
theorem F17_ok (g : prodL L17) (K X : Kn) (h : F17 g K) : FCalls Tryd.prog 17 (argsT S17 L17 g) [] K X :=
  FCalls.settle0 (dfun_sound (Γ := gamX [] [(25, true, sp25), (26, true, sp26), (27, true, sp27), (28, true, sp28)]) (mu := isRaw []) (H := H17) (J := J17) D_ok (gamX_ok (rs := []) (l := [(25, true, sp25), (26, true, sp26), (27, true, sp27), (28, true, sp28)]) (fun p hp => by cases hp) (by intro p hp; simp only [List.mem_cons, List.not_mem_nil, or_false] at hp; rcases hp with rfl | rfl | rfl | rfl <;> first | exact sp25_ok | exact sp26_ok | exact sp27_ok | exact sp28_ok)) gamX_det rfl Tryd.func17 (c := codeOf Tryd.f17) rfl Tryd.ntmps17 (rs := [.tmp 4]) Tryd.results17 (by unfold enters; rw [Tryd.func17]; kernel_rfl) (Nat.le_of_ble_eq_true (by kernel_rfl)) (X := X) (c0 := 0) (Eq.mp (F17_eq g K X) h))
end Go.Proofs.YtoclmkbjgmgekaaDoor
