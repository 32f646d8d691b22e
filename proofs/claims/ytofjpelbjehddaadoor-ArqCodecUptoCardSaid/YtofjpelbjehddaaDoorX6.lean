import Derived.Test.YtofjpelbjehddaaDoorX3
import Derived.Shelf.Strings.Builder1
import Derived.Test.YtofjpelbjehddaaDoorX5
/-
  Csexp: the copy check of a strings.Builder that has been written.
-/
namespace Go.Proofs.YtofjpelbjehddaaDoor
set_option linter.unusedVariables false
set_option linter.unusedSimpArgs false
set_option linter.unusedSectionVars false
open Go.RowKit Go.Shelf
def laysCopy_ren : Go.Shelf.Ren := ⟨fun | 240 => 70 | 276 => 84 | n => n, fun | 70 => 75 | 72 => 77 | 37 => 31 | 164 => 129 | n => n, fun n => n⟩
theorem laysCopy : Go.Proofs.Lays.n240 Tryd.prog laysCopy_ren := {
  mixed := by kernel_rfl
  f240 := Tryd.func70.trans (congrArg some (by kernel_rfl))
  f276 := Tryd.func84.trans (congrArg some (by kernel_rfl))
  t0 := Tryd.underlying0
  a0 := Tryd.isAgg0
  z0 := Tryd.sizeOf0
  v0 := Tryd.zeroValue0
  t4 := Tryd.underlying4
  a4 := Tryd.isAgg4
  z4 := Tryd.sizeOf4
  v4 := Tryd.zeroValue4
  t9 := Tryd.underlying9
  a9 := Tryd.isAgg9
  z9 := Tryd.sizeOf9
  v9 := Tryd.zeroValue9
  t20 := Tryd.underlying20
  a20 := Tryd.isAgg20
  z20 := Tryd.sizeOf20
  v20 := Tryd.zeroValue20
  t70 := Tryd.underlying75
  a70 := Tryd.isAgg75
  z70 := Tryd.sizeOf75
  v70 := Tryd.zeroValue75
  t72 := Tryd.underlying77
  a72 := Tryd.isAgg77
  z72 := Tryd.sizeOf77
  v72 := Tryd.zeroValue77
  t164 := Tryd.underlying129
  a164 := Tryd.isAgg129
  z164 := Tryd.sizeOf129
  v164 := Tryd.zeroValue129 }
theorem copyX : Builder.X72 Tryd.prog laysCopy_ren := { sizeBuilder := by kernel_rfl, liesBuilder := by kernel_rfl }
abbrev bdrO : List ObSh := [.cells [.pt 0 0, .oa .u8 1], .arr .u8]
def rw70 : Raw := ⟨[.pt 0 0], bdrO, [.sl .u8], 0, fun g K _ => K (.tu []) [some (.cells [.pt 0 0, .oa .u8 1 0]), some (.arr 0 .u8 g.1)]⟩
theorem rw70_ok : rw70.Ok Tryd.prog 70 := by
  rintro ⟨bs, ⟨⟩⟩ K X h g w hg
  have h : K (.tu []) [some (.cells [.pt 0 0, .oa .u8 1 0]), some (.arr 0 .u8 bs)] := h
  have hg : Good g [some (.cells [.pt 0 0, .oa .u8 1 0]), some (.arr 0 .u8 bs)] w := hg
  refine Atc.of (by kernel_rfl) fun args hr => ?_
  obtain ⟨x, rfl, hx⟩ := rl_one hr
  obtain ⟨oi, o1, _, o3⟩ := hg.obj 0 _ rfl
  have o1 : g.ob 0 0 = some oi := o1
  have hx : R g (.pt 0 0) x := hx
  cases hx with
  | pt _ _ oi' h1 =>
    rw [o1] at h1
    simp only [Option.some.injEq] at h1
    subst h1
    rcases o3 with o3 | ⟨_, blk, E, fr, p1, _, p3, _⟩
    · cases o3.1
    have p1 : w.heap[oi.b]? = some (.cells blk E fr) := p1
    obtain ⟨y, y1, _, y3⟩ := p3.at_ 0 _ rfl
    have hy : y = .pointer (some ⟨oi.b, 0, none⟩) := by
      cases y3 with
      | pt _ _ oi' h1 =>
        rw [o1] at h1
        simp only [Option.some.injEq] at h1
        subst h1
        rfl
    refine (Any.Builder_copyCheck_used laysCopy copyX oi.b w (by rw [← hy]; simp [World.cell?, p1, y1])).mono ?_
    rintro e w' ⟨rfl, rfl⟩
    exact ⟨g, _, hg, Step.refl, _, h, .tu [] #[] rfl (by simp)⟩
end Go.Proofs.YtofjpelbjehddaaDoor

/- What functions come to: printed by exf.py. -/
namespace Go.Proofs.YtofjpelbjehddaaDoor
set_option linter.unusedVariables false
set_option linter.unusedSimpArgs false
set_option linter.unusedSectionVars false
open Go.RowKit
attribute [local irreducible] dfun dround
/-- (*strings.Builder).WriteString -/
def H59 : List (Nat × Hint) := []
def J59 : List (Nat × Hint) := []
abbrev S59 : List Sh := [.pt 0 0, .leaf]
abbrev L59 : List Lf := [.str, .sl .u8]
abbrev O59 : List ObSh := [.cells [.pt 0 0, .oa .u8 1], .arr .u8]
def F59 (g : prodL L59) (K : Kn) : Prop :=
  Room (g.2.1.length + (strB g.1).length) 1 (
  K (.tu [.int .i64 (g.1.size : Int), .cst .nilIface]) [some (.cells [.pt 0 0, .oa .u8 1 0]), some (.arr 0 .u8 (g.2.1 ++ (strB g.1)))])
theorem F59_eq (g : prodL L59) (K X : Kn) : F59 g K = dfun D (gamX [(70, rw70)] []) (isRaw [(70, rw70)]) H59 J59 19 [.tmp 4, .tmp 5] (codeOf Tryd.f59) (argsT S59 L59 g) (storeT S59 O59 L59 g) (settleD (storeT S59 O59 L59 g).length 0 K) X 0 := by kernel_rfl
theorem F59_ok (g : prodL L59) (K X : Kn) (h : F59 g K) : FCalls Tryd.prog 59 (argsT S59 L59 g) (storeT S59 O59 L59 g) K X 0 :=
  FCalls.settleD (dfun_sound (Γ := gamX [(70, rw70)] []) (mu := isRaw [(70, rw70)]) (H := H59) (J := J59) D_ok (gamX_ok (rs := [(70, rw70)]) (l := []) (by intro p hp; simp only [List.mem_cons, List.not_mem_nil, or_false] at hp; subst hp; exact rw70_ok) (fun p hp => by cases hp)) gamX_det rfl Tryd.func59 (c := codeOf Tryd.f59) rfl Tryd.ntmps59 (rs := [.tmp 4, .tmp 5]) Tryd.results59 (by unfold enters; rw [Tryd.func59]; kernel_rfl) (Nat.le_of_ble_eq_true (by kernel_rfl)) (X := X) (c0 := 0) (Eq.mp (F59_eq g K X) h))
def rw59 : Raw := ⟨S59, O59, L59, 0, fun g K _ => F59 g K⟩
theorem rw59_ok : rw59.Ok Tryd.prog 59 := fun g K X h => F59_ok g K X h
/-- (*strings.Builder).WriteByte -/
def H60 : List (Nat × Hint) := []
def J60 : List (Nat × Hint) := []
abbrev S60 : List Sh := [.pt 0 0, .leaf]
abbrev L60 : List Lf := [.int .u8, .sl .u8]
abbrev O60 : List ObSh := [.cells [.pt 0 0, .oa .u8 1], .arr .u8]
def F60 (g : prodL L60) (K : Kn) : Prop :=
  Room (g.2.1.length + [g.1].length) 1 (
  K (.cst .nilIface) [some (.cells [.pt 0 0, .oa .u8 1 0]), some (.arr 0 .u8 (g.2.1 ++ [g.1]))])
theorem F60_eq (g : prodL L60) (K X : Kn) : F60 g K = dfun D (gamX [(70, rw70)] []) (isRaw [(70, rw70)]) H60 J60 17 [.tmp 4] (codeOf Tryd.f60) (argsT S60 L60 g) (storeT S60 O60 L60 g) (settleD (storeT S60 O60 L60 g).length 0 K) X 0 := by kernel_rfl
theorem F60_ok (g : prodL L60) (K X : Kn) (h : F60 g K) : FCalls Tryd.prog 60 (argsT S60 L60 g) (storeT S60 O60 L60 g) K X 0 :=
  FCalls.settleD (dfun_sound (Γ := gamX [(70, rw70)] []) (mu := isRaw [(70, rw70)]) (H := H60) (J := J60) D_ok (gamX_ok (rs := [(70, rw70)]) (l := []) (by intro p hp; simp only [List.mem_cons, List.not_mem_nil, or_false] at hp; subst hp; exact rw70_ok) (fun p hp => by cases hp)) gamX_det rfl Tryd.func60 (c := codeOf Tryd.f60) rfl Tryd.ntmps60 (rs := [.tmp 4]) Tryd.results60 (by unfold enters; rw [Tryd.func60]; kernel_rfl) (Nat.le_of_ble_eq_true (by kernel_rfl)) (X := X) (c0 := 0) (Eq.mp (F60_eq g K X) h))
def rw60 : Raw := ⟨S60, O60, L60, 0, fun g K _ => F60 g K⟩
theorem rw60_ok : rw60.Ok Tryd.prog 60 := fun g K X h => F60_ok g K X h
end Go.Proofs.YtofjpelbjehddaaDoor

/-
  Csexp: what encode writes.
-/
namespace Go.Proofs.YtofjpelbjehddaaDoor
set_option linter.unusedVariables false
set_option linter.unusedSimpArgs false
set_option linter.unusedSectionVars false
open Go.RowKit

def encI (x : Sx) : List Int := (encL x).map fun b => (b.toNat : Int)
def encP (x : Sx) (bs : List Int) : Prop := bkS x ≤ lim ∧ bs.length + 22 * bkS x ≤ 70368744177664
def encPre (g : prodL [.bool, .str, .sl .sexp, .sl .u8]) : Prop := encP ⟨g.1, g.2.1, g.2.2.1⟩ g.2.2.2.1
def encF (g : prodL [.bool, .str, .sl .sexp, .sl .u8]) (K _ : Kn) : Prop :=
  K (.tu []) [some (.cells [.pt 0 0, .oa .u8 1 0]), some (.arr 0 .u8 (g.2.2.2.1 ++ encI ⟨g.1, g.2.1, g.2.2.1⟩))]
end Go.Proofs.YtofjpelbjehddaaDoor

/- What functions come to: printed by exf.py. -/
namespace Go.Proofs.YtofjpelbjehddaaDoor
set_option linter.unusedVariables false
set_option linter.unusedSimpArgs false
set_option linter.unusedSectionVars false
open Go.RowKit
attribute [local irreducible] dfun dround
/-- quilt/csexp.encode -/
def H39 : List (Nat × Hint) := [(7, ⟨[], [(0, .pt 0 0), (24, .leaf), (25, .leaf), (26, .leaf)], [.cells [.pt 0 0, .oa .u8 1], .arr .u8], [.sl .sexp, .int .i64, .int .i64, .sl .u8]⟩)]
def J39 : List (Nat × Hint) := []
abbrev S39 : List Sh := [.pt 0 0, .ag [.leaf, .leaf, .leaf]]
abbrev L39 : List Lf := [.bool, .str, .sl .sexp, .sl .u8]
abbrev O39 : List ObSh := [.cells [.pt 0 0, .oa .u8 1], .arr .u8]
def rwz39 (Z : prodL L39 → Prop) : Raw := ⟨S39, O39, L39, 0, fun g K X => Z g ∧ encF g K X⟩
def F39_B6 (K : Kn) (Z : prodL L39 → Prop) (W6 : prodL [.sl .sexp, .int .i64, .int .i64, .sl .u8] → Prop) (t_5 : List Sx) (t2_5 : Int) (t3_5 : Int) (o1_5 : List Int) : Prop :=
  bif decide (t3_5 < t2_5) then (
    At t_5 t3_5 fun u7 =>
  Z (u7.isList, u7.atom, u7.list, o1_5, ()) ∧
  W6 (t_5, t2_5, IntKind.i64.wrap (t3_5 + 1), (o1_5 ++ encI ⟨u7.isList, u7.atom, u7.list⟩), ()))
  else (
    let g8 : prodL [.int .u8, .sl .u8] := (41, o1_5, ());
  Room (g8.2.1.length + [g8.1].length) 1 (
  K (.tu []) [some (.cells [.pt 0 0, .oa .u8 1 0]), some (.arr 0 .u8 (g8.2.1 ++ [g8.1]))]))
def F39_L6 (K : Kn) (Z : prodL L39 → Prop) (g : prodL [.sl .sexp, .int .i64, .int .i64, .sl .u8]) : Prop :=
  LoopW (γ := prodL [.sl .sexp, .int .i64, .int .i64, .sl .u8]) (fun V y => F39_B6 K Z V y.1 y.2.1 y.2.2.1 y.2.2.2.1) g
def F39 (Z : prodL L39 → Prop) (g : prodL L39) (K : Kn) : Prop :=
  bif !g.1 then (
    sp37.pre ((g.2.1.size : Int), ()) ∧
    let g1 : prodL [.str, .sl .u8] := ((decB (g.2.1.size : Int)), g.2.2.2.1, ());
    Room (g1.2.1.length + (strB g1.1).length) 1 (
    let g2 : prodL [.int .u8, .sl .u8] := (58, g1.2.1 ++ (strB g1.1), ());
    Room (g2.2.1.length + [g2.1].length) 1 (
    let g3 : prodL [.str, .sl .u8] := (g.2.1, g2.2.1 ++ [g2.1], ());
    Room (g3.2.1.length + (strB g3.1).length) 1 (
    K (.tu []) [some (.cells [.pt 0 0, .oa .u8 1 0]), some (.arr 0 .u8 (g3.2.1 ++ (strB g3.1)))]))))
  else (
    let g4 : prodL [.int .u8, .sl .u8] := (40, g.2.2.2.1, ());
  Room (g4.2.1.length + [g4.1].length) 1 (
  F39_L6 K Z (g.2.2.1, (g.2.2.1.length : Int), 0, g4.2.1 ++ [g4.1], ())))
theorem F39_eq (Z : prodL L39 → Prop) (g : prodL L39) (K X : Kn) : F39 Z g K = dfun D (gamX [(39, rwz39 Z), (59, rw59), (60, rw60)] [(37, true, sp37)]) (isRaw [(39, rwz39 Z), (59, rw59), (60, rw60)]) H39 J39 36 [] (codeOf Tryd.f39) (argsT S39 L39 g) (storeT S39 O39 L39 g) (settleD (storeT S39 O39 L39 g).length 0 K) X 0 := by kernel_rfl
theorem F39_ok (Z : prodL L39 → Prop) (hZ : (rwz39 Z).Ok Tryd.prog 39) (g : prodL L39) (K X : Kn) (h : F39 Z g K) : FCalls Tryd.prog 39 (argsT S39 L39 g) (storeT S39 O39 L39 g) K X 0 :=
  FCalls.settleD (dfun_sound (Γ := gamX [(39, rwz39 Z), (59, rw59), (60, rw60)] [(37, true, sp37)]) (mu := isRaw [(39, rwz39 Z), (59, rw59), (60, rw60)]) (H := H39) (J := J39) D_ok (gamX_ok (rs := [(39, rwz39 Z), (59, rw59), (60, rw60)]) (l := [(37, true, sp37)]) (by intro p hp; simp only [List.mem_cons, List.not_mem_nil, or_false] at hp; rcases hp with rfl | rfl | rfl <;> first | exact hZ | exact rw59_ok | exact rw60_ok) (by intro p hp; simp only [List.mem_cons, List.not_mem_nil, or_false] at hp; subst hp; exact sp37_ok)) gamX_det rfl Tryd.func39 (c := codeOf Tryd.f39) rfl Tryd.ntmps39 (rs := []) Tryd.results39 (by unfold enters; rw [Tryd.func39]; kernel_rfl) (Nat.le_of_ble_eq_true (by kernel_rfl)) (X := X) (c0 := 0) (Eq.mp (F39_eq Z g K X) h))
end Go.Proofs.YtofjpelbjehddaaDoor

/-
  Csexp: encode on a used builder.
-/
namespace Go.Proofs.YtofjpelbjehddaaDoor
set_option linter.unusedVariables false
set_option linter.unusedSimpArgs false
set_option linter.unusedSectionVars false
open Go.RowKit

def encsI (l : List Sx) : List Int := (encLs l).map fun b => (b.toNat : Int)
theorem strB_bl (s : ByteArray) : strB s = (bl s).map fun b => (b.toNat : Int) := rfl
theorem strB_len (s : ByteArray) : (strB s).length = s.size := by rw [strB_bl, List.length_map, bl_len]
theorem encI_len {x : Sx} (h : bkS x ≤ lim) : (encI x).length ≤ 22 * bkS x := by unfold encI; rw [List.length_map]; exact encL_len x h
theorem encI_atom (a : ByteArray) (l : List Sx) : encI ⟨false, a, l⟩ = strB (decB (a.size : Int)) ++ (58 :: strB a) := by
  unfold encI
  simp only [encL, if_true, strB_bl, bl_dec, List.map_append, List.map_cons]
  rw [Lib.itoa, if_neg (by omega), Int.toNat_natCast]
  rfl
theorem encI_list (a : ByteArray) (l : List Sx) : encI ⟨true, a, l⟩ = 40 :: (encsI l ++ [41]) := by
  unfold encI encsI
  simp [encL]
theorem F39_is {Z : prodL L39 → Prop} {b : Bool} {a : ByteArray} {l : List Sx} {bs : List Int} {K X : Kn} (hp : encP ⟨b, a, l⟩ bs) (hZ : ∀ x ∈ l, ∀ cs, encP x cs → Z (x.isList, x.atom, x.list, cs, ())) (h : encF (b, a, l, bs, ()) K X) : F39 Z (b, a, l, bs, ()) K := by
  obtain ⟨hk, hz⟩ := hp
  obtain ⟨hs, hsz, hbl, _⟩ := small hk
  have hl := lim_eq
  unfold encF at h
  unfold F39
  simp only [bkS] at hz
  dsimp only [Lf.ty, prodL] at h ⊢
  cases b
  · rw [encI_atom] at h
    have hn : intP (a.size : Int) := (⟨by omega, by omega⟩ : -9223372036854775808 ≤ (a.size : Int) ∧ (a.size : Int) ≤ 9223372036854775807)
    have hd := decB_size hn
    simp only [Bool.not_false, cond_true]
    refine ⟨hn, ?_, ?_, ?_, ?_⟩
    · rw [strB_len]; omega
    · simp only [List.length_append, strB_len, List.length_cons, List.length_nil]; omega
    · simp only [List.length_append, strB_len, List.length_cons, List.length_nil]; omega
    · rw [show ((bs ++ strB (decB (a.size : Int))) ++ [58]) ++ strB a = bs ++ (strB (decB (a.size : Int)) ++ (58 :: strB a)) by simp]
      exact h
  · rw [encI_list] at h
    simp only [Bool.not_true, cond_false]
    refine ⟨by simp only [List.length_cons, List.length_nil]; omega, ?_⟩
    unfold F39_L6
    refine LoopW.fold l (fun n (cs : List Int) => (l, (l.length : Int), (n : Int), cs, ())) (fun r _ cs => K (.tu []) [some (.cells [.pt 0 0, .oa .u8 1 0]), some (.arr 0 .u8 (cs ++ (encsI r ++ [41])))] ∧ cs.length + 22 * bkSs r ≤ 70368744177664) (a0 := bs ++ [40]) rfl ⟨?_, by simp only [List.length_append, List.length_cons, List.length_nil]; omega⟩ (fun cs hp W => ?_) (fun n hn r cs hr hp W hW => ?_)
    · rw [List.append_assoc]; exact h
    · obtain ⟨p1, p2⟩ := hp
      unfold F39_B6
      rw [bif_dec, if_neg (by dsimp only; omega)]
      simp only [bkSs] at p2
      exact ⟨by simp only [List.length_cons, List.length_nil]; omega, p1⟩
    · obtain ⟨p1, p2⟩ := hp
      unfold F39_B6
      rw [bif_dec, if_pos (by dsimp only; omega)]
      have hx : bkS l[n] ≤ bkSs l := mem_bk (List.getElem_mem hn)
      have he := encI_len (x := l[n]) (by omega)
      simp only [bkSs] at p2
      refine At_of hn ⟨hZ _ (List.getElem_mem hn) cs ⟨by omega, by omega⟩, ?_⟩
      rw [Sx.eta, wrapS hn hs]
      refine hW (cs ++ encI l[n]) ⟨?_, ?_⟩
      · have e : encsI (l[n] :: r) = encI l[n] ++ encsI r := by unfold encsI encI; simp [encLs]
        rw [e] at p1
        rw [List.append_assoc, ← List.append_assoc (encI l[n])]
        exact p1
      · rw [List.length_append]; omega
def rw39 : Raw := rwz39 encPre
theorem rw39_all : ∀ n : Nat, (rwz39 fun g => encPre g ∧ nodesS ⟨g.1, g.2.1, g.2.2.1⟩ < n).Ok Tryd.prog 39
  | 0 => fun g K X h => absurd h.1.2 (Nat.not_lt_zero _)
  | n + 1 => fun g K X h => F39_ok _ (rw39_all n) g K X (F39_is h.1.1 (fun x hx cs hc => ⟨(by show encP ⟨_, _, _⟩ _; rw [Sx.eta]; exact hc), by
      have h1 := ((small h.1.1.1).2.2.2 x hx).2
      have h2 := h.1.2
      dsimp only at *
      omega⟩) h.2)
theorem rw39_ok : rw39.Ok Tryd.prog 39 := fun g K X h => rw39_all (nodesS ⟨g.1, g.2.1, g.2.2.1⟩ + 1) g K X ⟨⟨h.1, Nat.lt_succ_self _⟩, h.2⟩
end Go.Proofs.YtofjpelbjehddaaDoor
