import Derived.Test.YtoclmkbjgmgekaaDoorX3
import Derived.Shelf.Strings.Builder1
import Derived.Test.YtoclmkbjgmgekaaDoorX5
/-
  Csexp: the copy check of a strings.Builder that has been written.
-/
namespace Go.Proofs.YtoclmkbjgmgekaaDoor
set_option linter.unusedVariables false
set_option linter.unusedSimpArgs false
set_option linter.unusedSectionVars false
open Go.RowKit Go.Shelf
def laysCopy_ren : Go.Shelf.Ren := ⟨fun | 240 => 107 | 276 => 116 | n => n, fun | 70 => 100 | 72 => 103 | 37 => 101 | 164 => 151 | n => n, fun n => n⟩
theorem laysCopy : Go.Proofs.Lays.n240 Tryd.prog laysCopy_ren := {
  mixed := by kernel_rfl
  f240 := Tryd.func107.trans (congrArg some (by kernel_rfl))
  f276 := Tryd.func116.trans (congrArg some (by kernel_rfl))
  t0 := Tryd.underlying0
  a0 := Tryd.isAgg0
  z0 := Tryd.sizeOf0
  v0 := Tryd.zeroValue0
  t4 := Tryd.underlying4
  a4 := Tryd.isAgg4
  z4 := Tryd.sizeOf4
  v4 := Tryd.zeroValue4
  t9 := Tryd.underlying9
  a9 := Tryd.isAgg9
  z9 := Tryd.sizeOf9
  v9 := Tryd.zeroValue9
  t20 := Tryd.underlying20
  a20 := Tryd.isAgg20
  z20 := Tryd.sizeOf20
  v20 := Tryd.zeroValue20
  t70 := Tryd.underlying100
  a70 := Tryd.isAgg100
  z70 := Tryd.sizeOf100
  v70 := Tryd.zeroValue100
  t72 := Tryd.underlying103
  a72 := Tryd.isAgg103
  z72 := Tryd.sizeOf103
  v72 := Tryd.zeroValue103
  t164 := Tryd.underlying151
  a164 := Tryd.isAgg151
  z164 := Tryd.sizeOf151
  v164 := Tryd.zeroValue151 }
theorem copyX : Builder.X72 Tryd.prog laysCopy_ren := { sizeBuilder := by kernel_rfl, liesBuilder := by kernel_rfl }
abbrev bdrO : List ObSh := [.cells [.pt 0 0, .oa .u8 1], .arr .u8]
def rw107 : Raw := ⟨[.pt 0 0], bdrO, [.sl .u8], 0, fun g K _ => K (.tu []) [some (.cells [.pt 0 0, .oa .u8 1 0]), some (.arr 0 .u8 g.1)]⟩
theorem rw107_ok : rw107.Ok Tryd.prog 107 := by
  rintro ⟨bs, ⟨⟩⟩ K X h g w hg
  have h : K (.tu []) [some (.cells [.pt 0 0, .oa .u8 1 0]), some (.arr 0 .u8 bs)] := h
  have hg : Good g [some (.cells [.pt 0 0, .oa .u8 1 0]), some (.arr 0 .u8 bs)] w := hg
  refine Atc.of (by kernel_rfl) fun args hr => ?_
  obtain ⟨x, rfl, hx⟩ := rl_one hr
  obtain ⟨oi, o1, _, o3⟩ := hg.obj 0 _ rfl
  have o1 : g.ob 0 0 = some oi := o1
  have hx : R g (.pt 0 0) x := hx
  cases hx with
  | pt _ _ oi' h1 =>
    rw [o1] at h1
    simp only [Option.some.injEq] at h1
    subst h1
    rcases o3 with o3 | ⟨_, blk, E, fr, p1, _, p3, _⟩
    · cases o3.1
    have p1 : w.heap[oi.b]? = some (.cells blk E fr) := p1
    obtain ⟨y, y1, _, y3⟩ := p3.at_ 0 _ rfl
    have hy : y = .pointer (some ⟨oi.b, 0, none⟩) := by
      cases y3 with
      | pt _ _ oi' h1 =>
        rw [o1] at h1
        simp only [Option.some.injEq] at h1
        subst h1
        rfl
    refine (Any.Builder_copyCheck_used laysCopy copyX oi.b w (by rw [← hy]; simp [World.cell?, p1, y1])).mono ?_
    rintro e w' ⟨rfl, rfl⟩
    exact ⟨g, _, hg, Step.refl, _, h, .tu [] #[] rfl (by simp)⟩
end Go.Proofs.YtoclmkbjgmgekaaDoor

/- What functions come to: printed by exf.py. -/
namespace Go.Proofs.YtoclmkbjgmgekaaDoor
set_option linter.unusedVariables false
set_option linter.unusedSimpArgs false
set_option linter.unusedSectionVars false
open Go.RowKit
attribute [local irreducible] dfun dround
/-- (*strings.Builder).WriteString -/
def H95 : List (Nat × Hint) := []
def J95 : List (Nat × Hint) := []
abbrev S95 : List Sh := [.pt 0 0, .leaf]
abbrev L95 : List Lf := [.str, .sl .u8]
abbrev O95 : List ObSh := [.cells [.pt 0 0, .oa .u8 1], .arr .u8]
def F95 (g : prodL L95) (K : Kn) : Prop :=
  Room (g.2.1.length + (strB g.1).length) 1 (
  K (.tu [.int .i64 (g.1.size : Int), .cst .nilIface]) [some (.cells [.pt 0 0, .oa .u8 1 0]), some (.arr 0 .u8 (g.2.1 ++ (strB g.1)))])
theorem F95_eq (g : prodL L95) (K X : Kn) : F95 g K = dfun D (gamX [(107, rw107)] []) (isRaw [(107, rw107)]) H95 J95 19 [.tmp 4, .tmp 5] (codeOf Tryd.f95) (argsT S95 L95 g) (storeT S95 O95 L95 g) (settleD (storeT S95 O95 L95 g).length 0 K) X 0 := by kernel_rfl
theorem F95_ok (g : prodL L95) (K X : Kn) (h : F95 g K) : FCalls Tryd.prog 95 (argsT S95 L95 g) (storeT S95 O95 L95 g) K X 0 :=
  FCalls.settleD (dfun_sound (Γ := gamX [(107, rw107)] []) (mu := isRaw [(107, rw107)]) (H := H95) (J := J95) D_ok (gamX_ok (rs := [(107, rw107)]) (l := []) (by intro p hp; simp only [List.mem_cons, List.not_mem_nil, or_false] at hp; subst hp; exact rw107_ok) (fun p hp => by cases hp)) gamX_det rfl Tryd.func95 (c := codeOf Tryd.f95) rfl Tryd.ntmps95 (rs := [.tmp 4, .tmp 5]) Tryd.results95 (by unfold enters; rw [Tryd.func95]; kernel_rfl) (Nat.le_of_ble_eq_true (by kernel_rfl)) (X := X) (c0 := 0) (Eq.mp (F95_eq g K X) h))
def rw95 : Raw := ⟨S95, O95, L95, 0, fun g K _ => F95 g K⟩
theorem rw95_ok : rw95.Ok Tryd.prog 95 := fun g K X h => F95_ok g K X h
/-- (*strings.Builder).WriteByte -/
def H96 : List (Nat × Hint) := []
def J96 : List (Nat × Hint) := []
abbrev S96 : List Sh := [.pt 0 0, .leaf]
abbrev L96 : List Lf := [.int .u8, .sl .u8]
abbrev O96 : List ObSh := [.cells [.pt 0 0, .oa .u8 1], .arr .u8]
def F96 (g : prodL L96) (K : Kn) : Prop :=
  Room (g.2.1.length + [g.1].length) 1 (
  K (.cst .nilIface) [some (.cells [.pt 0 0, .oa .u8 1 0]), some (.arr 0 .u8 (g.2.1 ++ [g.1]))])
theorem F96_eq (g : prodL L96) (K X : Kn) : F96 g K = dfun D (gamX [(107, rw107)] []) (isRaw [(107, rw107)]) H96 J96 17 [.tmp 4] (codeOf Tryd.f96) (argsT S96 L96 g) (storeT S96 O96 L96 g) (settleD (storeT S96 O96 L96 g).length 0 K) X 0 := by kernel_rfl
theorem F96_ok (g : prodL L96) (K X : Kn) (h : F96 g K) : FCalls Tryd.prog 96 (argsT S96 L96 g) (storeT S96 O96 L96 g) K X 0 :=
  FCalls.settleD (dfun_sound (Γ := gamX [(107, rw107)] []) (mu := isRaw [(107, rw107)]) (H := H96) (J := J96) D_ok (gamX_ok (rs := [(107, rw107)]) (l := []) (by intro p hp; simp only [List.mem_cons, List.not_mem_nil, or_false] at hp; subst hp; exact rw107_ok) (fun p hp => by cases hp)) gamX_det rfl Tryd.func96 (c := codeOf Tryd.f96) rfl Tryd.ntmps96 (rs := [.tmp 4]) Tryd.results96 (by unfold enters; rw [Tryd.func96]; kernel_rfl) (Nat.le_of_ble_eq_true (by kernel_rfl)) (X := X) (c0 := 0) (Eq.mp (F96_eq g K X) h))
def rw96 : Raw := ⟨S96, O96, L96, 0, fun g K _ => F96 g K⟩
theorem rw96_ok : rw96.Ok Tryd.prog 96 := fun g K X h => F96_ok g K X h
end Go.Proofs.YtoclmkbjgmgekaaDoor

/-
  Csexp: what encode writes.
-/
namespace Go.Proofs.YtoclmkbjgmgekaaDoor
set_option linter.unusedVariables false
set_option linter.unusedSimpArgs false
set_option linter.unusedSectionVars false
open Go.RowKit

def encI (x : Sx) : List Int := (encL x).map fun b => (b.toNat : Int)
def encP (x : Sx) (bs : List Int) : Prop := bkS x ≤ lim ∧ bs.length + 22 * bkS x ≤ 70368744177664
def encPre (g : prodL [.bool, .str, .sl .sexp, .sl .u8]) : Prop := encP ⟨g.1, g.2.1, g.2.2.1⟩ g.2.2.2.1
def encF (g : prodL [.bool, .str, .sl .sexp, .sl .u8]) (K _ : Kn) : Prop :=
  K (.tu []) [some (.cells [.pt 0 0, .oa .u8 1 0]), some (.arr 0 .u8 (g.2.2.2.1 ++ encI ⟨g.1, g.2.1, g.2.2.1⟩))]
end Go.Proofs.YtoclmkbjgmgekaaDoor

/- What functions come to: printed by exf.py. -/
namespace Go.Proofs.YtoclmkbjgmgekaaDoor
set_option linter.unusedVariables false
set_option linter.unusedSimpArgs false
set_option linter.unusedSectionVars false
open Go.RowKit
attribute [local irreducible] dfun dround
/-- quilt/csexp.encode -/
def H74 : List (Nat × Hint) := [(7, ⟨[], [(0, .pt 0 0), (24, .leaf), (25, .leaf), (26, .leaf)], [.cells [.pt 0 0, .oa .u8 1], .arr .u8], [.sl .sexp, .int .i64, .int .i64, .sl .u8]⟩)]
def J74 : List (Nat × Hint) := []
abbrev S74 : List Sh := [.pt 0 0, .ag [.leaf, .leaf, .leaf]]
abbrev L74 : List Lf := [.bool, .str, .sl .sexp, .sl .u8]
abbrev O74 : List ObSh := [.cells [.pt 0 0, .oa .u8 1], .arr .u8]
def rwz74 (Z : prodL L74 → Prop) : Raw := ⟨S74, O74, L74, 0, fun g K X => Z g ∧ encF g K X⟩
def F74_B6 (K : Kn) (Z : prodL L74 → Prop) (W6 : prodL [.sl .sexp, .int .i64, .int .i64, .sl .u8] → Prop) (t_5 : List Sx) (t2_5 : Int) (t3_5 : Int) (o1_5 : List Int) : Prop :=
  bif decide (t3_5 < t2_5) then (
    At t_5 t3_5 fun u7 =>
  Z (u7.isList, u7.atom, u7.list, o1_5, ()) ∧
  W6 (t_5, t2_5, IntKind.i64.wrap (t3_5 + 1), (o1_5 ++ encI ⟨u7.isList, u7.atom, u7.list⟩), ()))
  else (
    let g8 : prodL [.int .u8, .sl .u8] := (41, o1_5, ());
  Room (g8.2.1.length + [g8.1].length) 1 (
  K (.tu []) [some (.cells [.pt 0 0, .oa .u8 1 0]), some (.arr 0 .u8 (g8.2.1 ++ [g8.1]))]))
def F74_L6 (K : Kn) (Z : prodL L74 → Prop) (g : prodL [.sl .sexp, .int .i64, .int .i64, .sl .u8]) : Prop :=
  LoopW (γ := prodL [.sl .sexp, .int .i64, .int .i64, .sl .u8]) (fun V y => F74_B6 K Z V y.1 y.2.1 y.2.2.1 y.2.2.2.1) g
def F74 (Z : prodL L74 → Prop) (g : prodL L74) (K : Kn) : Prop :=
  bif !g.1 then (
    sp36.pre ((g.2.1.size : Int), ()) ∧
    let g1 : prodL [.str, .sl .u8] := ((decB (g.2.1.size : Int)), g.2.2.2.1, ());
    Room (g1.2.1.length + (strB g1.1).length) 1 (
    let g2 : prodL [.int .u8, .sl .u8] := (58, g1.2.1 ++ (strB g1.1), ());
    Room (g2.2.1.length + [g2.1].length) 1 (
    let g3 : prodL [.str, .sl .u8] := (g.2.1, g2.2.1 ++ [g2.1], ());
    Room (g3.2.1.length + (strB g3.1).length) 1 (
    K (.tu []) [some (.cells [.pt 0 0, .oa .u8 1 0]), some (.arr 0 .u8 (g3.2.1 ++ (strB g3.1)))]))))
  else (
    let g4 : prodL [.int .u8, .sl .u8] := (40, g.2.2.2.1, ());
  Room (g4.2.1.length + [g4.1].length) 1 (
  F74_L6 K Z (g.2.2.1, (g.2.2.1.length : Int), 0, g4.2.1 ++ [g4.1], ())))
theorem F74_eq (Z : prodL L74 → Prop) (g : prodL L74) (K X : Kn) : F74 Z g K = dfun D (gamX [(74, rwz74 Z), (95, rw95), (96, rw96)] [(36, true, sp36)]) (isRaw [(74, rwz74 Z), (95, rw95), (96, rw96)]) H74 J74 36 [] (codeOf Tryd.f74) (argsT S74 L74 g) (storeT S74 O74 L74 g) (settleD (storeT S74 O74 L74 g).length 0 K) X 0 := by kernel_rfl
theorem F74_ok (Z : prodL L74 → Prop) (hZ : (rwz74 Z).Ok Tryd.prog 74) (g : prodL L74) (K X : Kn) (h : F74 Z g K) : FCalls Tryd.prog 74 (argsT S74 L74 g) (storeT S74 O74 L74 g) K X 0 :=
  FCalls.settleD (dfun_sound (Γ := gamX [(74, rwz74 Z), (95, rw95), (96, rw96)] [(36, true, sp36)]) (mu := isRaw [(74, rwz74 Z), (95, rw95), (96, rw96)]) (H := H74) (J := J74) D_ok (gamX_ok (rs := [(74, rwz74 Z), (95, rw95), (96, rw96)]) (l := [(36, true, sp36)]) (by intro p hp; simp only [List.mem_cons, List.not_mem_nil, or_false] at hp; rcases hp with rfl | rfl | rfl <;> first | exact hZ | exact rw95_ok | exact rw96_ok) (by intro p hp; simp only [List.mem_cons, List.not_mem_nil, or_false] at hp; subst hp; exact sp36_ok)) gamX_det rfl Tryd.func74 (c := codeOf Tryd.f74) rfl Tryd.ntmps74 (rs := []) Tryd.results74 (by unfold enters; rw [Tryd.func74]; kernel_rfl) (Nat.le_of_ble_eq_true (by kernel_rfl)) (X := X) (c0 := 0) (Eq.mp (F74_eq Z g K X) h))
end Go.Proofs.YtoclmkbjgmgekaaDoor

/-
  Csexp: encode on a used builder.
-/
namespace Go.Proofs.YtoclmkbjgmgekaaDoor
set_option linter.unusedVariables false
set_option linter.unusedSimpArgs false
set_option linter.unusedSectionVars false
open Go.RowKit

def encsI (l : List Sx) : List Int := (encLs l).map fun b => (b.toNat : Int)
theorem strB_bl (s : ByteArray) : strB s = (bl s).map fun b => (b.toNat : Int) := rfl
theorem strB_len (s : ByteArray) : (strB s).length = s.size := by rw [strB_bl, List.length_map, bl_len]
theorem encI_len {x : Sx} (h : bkS x ≤ lim) : (encI x).length ≤ 22 * bkS x := by unfold encI; rw [List.length_map]; exact encL_len x h
theorem encI_atom (a : ByteArray) (l : List Sx) : encI ⟨false, a, l⟩ = strB (decB (a.size : Int)) ++ (58 :: strB a) := by
  unfold encI
  simp only [encL, if_true, strB_bl, bl_dec, List.map_append, List.map_cons]
  rw [Lib.itoa, if_neg (by omega), Int.toNat_natCast]
  rfl
theorem encI_list (a : ByteArray) (l : List Sx) : encI ⟨true, a, l⟩ = 40 :: (encsI l ++ [41]) := by
  unfold encI encsI
  simp [encL]
theorem F74_is {Z : prodL L74 → Prop} {b : Bool} {a : ByteArray} {l : List Sx} {bs : List Int} {K X : Kn} (hp : encP ⟨b, a, l⟩ bs) (hZ : ∀ x ∈ l, ∀ cs, encP x cs → Z (x.isList, x.atom, x.list, cs, ())) (h : encF (b, a, l, bs, ()) K X) : F74 Z (b, a, l, bs, ()) K := by
  obtain ⟨hk, hz⟩ := hp
  obtain ⟨hs, hsz, hbl, _⟩ := small hk
  have hl := lim_eq
  unfold encF at h
  unfold F74
  simp only [bkS] at hz
  dsimp only [Lf.ty, prodL] at h ⊢
  cases b
  · rw [encI_atom] at h
    have hn : intP (a.size : Int) := (⟨by omega, by omega⟩ : -9223372036854775808 ≤ (a.size : Int) ∧ (a.size : Int) ≤ 9223372036854775807)
    have hd := decB_size hn
    simp only [Bool.not_false, cond_true]
    refine ⟨hn, ?_, ?_, ?_, ?_⟩
    · rw [strB_len]; omega
    · simp only [List.length_append, strB_len, List.length_cons, List.length_nil]; omega
    · simp only [List.length_append, strB_len, List.length_cons, List.length_nil]; omega
    · rw [show ((bs ++ strB (decB (a.size : Int))) ++ [58]) ++ strB a = bs ++ (strB (decB (a.size : Int)) ++ (58 :: strB a)) by simp]
      exact h
  · rw [encI_list] at h
    simp only [Bool.not_true, cond_false]
    refine ⟨by simp only [List.length_cons, List.length_nil]; omega, ?_⟩
    unfold F74_L6
    refine LoopW.fold l (fun n (cs : List Int) => (l, (l.length : Int), (n : Int), cs, ())) (fun r _ cs => K (.tu []) [some (.cells [.pt 0 0, .oa .u8 1 0]), some (.arr 0 .u8 (cs ++ (encsI r ++ [41])))] ∧ cs.length + 22 * bkSs r ≤ 70368744177664) (a0 := bs ++ [40]) rfl ⟨?_, by simp only [List.length_append, List.length_cons, List.length_nil]; omega⟩ (fun cs hp W => ?_) (fun n hn r cs hr hp W hW => ?_)
    · rw [List.append_assoc]; exact h
    · obtain ⟨p1, p2⟩ := hp
      unfold F74_B6
      rw [bif_dec, if_neg (by dsimp only; omega)]
      simp only [bkSs] at p2
      exact ⟨by simp only [List.length_cons, List.length_nil]; omega, p1⟩
    · obtain ⟨p1, p2⟩ := hp
      unfold F74_B6
      rw [bif_dec, if_pos (by dsimp only; omega)]
      have hx : bkS l[n] ≤ bkSs l := mem_bk (List.getElem_mem hn)
      have he := encI_len (x := l[n]) (by omega)
      simp only [bkSs] at p2
      refine At_of hn ⟨hZ _ (List.getElem_mem hn) cs ⟨by omega, by omega⟩, ?_⟩
      rw [Sx.eta, wrapS hn hs]
      refine hW (cs ++ encI l[n]) ⟨?_, ?_⟩
      · have e : encsI (l[n] :: r) = encI l[n] ++ encsI r := by unfold encsI encI; simp [encLs]
        rw [e] at p1
        rw [List.append_assoc, ← List.append_assoc (encI l[n])]
        exact p1
      · rw [List.length_append]; omega
def rw74 : Raw := rwz74 encPre
theorem rw74_all : ∀ n : Nat, (rwz74 fun g => encPre g ∧ nodesS ⟨g.1, g.2.1, g.2.2.1⟩ < n).Ok Tryd.prog 74
  | 0 => fun g K X h => absurd h.1.2 (Nat.not_lt_zero _)
  | n + 1 => fun g K X h => F74_ok _ (rw74_all n) g K X (F74_is h.1.1 (fun x hx cs hc => ⟨(by show encP ⟨_, _, _⟩ _; rw [Sx.eta]; exact hc), by
      have h1 := ((small h.1.1.1).2.2.2 x hx).2
      have h2 := h.1.2
      dsimp only at *
      omega⟩) h.2)
theorem rw74_ok : rw74.Ok Tryd.prog 74 := fun g K X h => rw74_all (nodesS ⟨g.1, g.2.1, g.2.2.1⟩ + 1) g K X ⟨⟨h.1, Nat.lt_succ_self _⟩, h.2⟩
end Go.Proofs.YtoclmkbjgmgekaaDoor
