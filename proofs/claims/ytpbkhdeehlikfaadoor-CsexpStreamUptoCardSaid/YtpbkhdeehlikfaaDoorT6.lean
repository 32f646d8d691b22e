import Derived.Test.YtpbkhdeehlikfaaDoorT3
import Derived.Shelf.Strings.Builder1
import Derived.Test.YtpbkhdeehlikfaaDoorT5
/-
  Csexp: the copy check of a strings.Builder that has been written.
-/
namespace Go.Proofs.YtpbkhdeehlikfaaDoor
set_option linter.unusedVariables false
set_option linter.unusedSimpArgs false
set_option linter.unusedSectionVars false
open Go.RowKit Go.Shelf
def laysCopy_ren : Go.Shelf.Ren := ⟨fun | 240 => 58 | 276 => 67 | n => n, fun | 70 => 67 | 72 => 70 | 37 => 68 | 164 => 103 | n => n, fun n => n⟩
theorem laysCopy : Go.Proofs.Lays.n240 Tryd.prog laysCopy_ren := {
  mixed := by kernel_rfl
  f240 := Tryd.func58.trans (congrArg some (by kernel_rfl))
  f276 := Tryd.func67.trans (congrArg some (by kernel_rfl))
  t0 := Tryd.underlying0
  a0 := Tryd.isAgg0
  z0 := Tryd.sizeOf0
  v0 := Tryd.zeroValue0
  t4 := Tryd.underlying4
  a4 := Tryd.isAgg4
  z4 := Tryd.sizeOf4
  v4 := Tryd.zeroValue4
  t9 := Tryd.underlying9
  a9 := Tryd.isAgg9
  z9 := Tryd.sizeOf9
  v9 := Tryd.zeroValue9
  t20 := Tryd.underlying20
  a20 := Tryd.isAgg20
  z20 := Tryd.sizeOf20
  v20 := Tryd.zeroValue20
  t70 := Tryd.underlying67
  a70 := Tryd.isAgg67
  z70 := Tryd.sizeOf67
  v70 := Tryd.zeroValue67
  t72 := Tryd.underlying70
  a72 := Tryd.isAgg70
  z72 := Tryd.sizeOf70
  v72 := Tryd.zeroValue70
  t164 := Tryd.underlying103
  a164 := Tryd.isAgg103
  z164 := Tryd.sizeOf103
  v164 := Tryd.zeroValue103 }
theorem copyX : Builder.X72 Tryd.prog laysCopy_ren := { sizeBuilder := by kernel_rfl, liesBuilder := by kernel_rfl }
abbrev bdrO : List ObSh := [.cells [.pt 0 0, .oa .u8 1], .arr .u8]
def rw58 : Raw := ⟨[.pt 0 0], bdrO, [.sl .u8], 0, fun g K _ => K (.tu []) [some (.cells [.pt 0 0, .oa .u8 1 0]), some (.arr 0 .u8 g.1)]⟩
theorem rw58_ok : rw58.Ok Tryd.prog 58 := by
  rintro ⟨bs, ⟨⟩⟩ K X h g w hg
  have h : K (.tu []) [some (.cells [.pt 0 0, .oa .u8 1 0]), some (.arr 0 .u8 bs)] := h
  have hg : Good g [some (.cells [.pt 0 0, .oa .u8 1 0]), some (.arr 0 .u8 bs)] w := hg
  refine Atc.of (by kernel_rfl) fun args hr => ?_
  obtain ⟨x, rfl, hx⟩ := rl_one hr
  obtain ⟨oi, o1, _, o3⟩ := hg.obj 0 _ rfl
  have o1 : g.ob 0 0 = some oi := o1
  have hx : R g (.pt 0 0) x := hx
  cases hx with
  | pt _ _ oi' h1 =>
    rw [o1] at h1
    simp only [Option.some.injEq] at h1
    subst h1
    rcases o3 with o3 | ⟨_, blk, E, fr, p1, _, p3, _⟩
    · cases o3.1
    obtain ⟨y, y1, _, y3⟩ := p3.at_ 0 _ rfl
    have hy : y = .pointer (some ⟨oi.b, 0, none⟩) := by
      cases y3 with
      | pt _ _ oi' h1 =>
        rw [o1] at h1
        simp only [Option.some.injEq] at h1
        subst h1
        rfl
    refine (Any.Builder_copyCheck_used laysCopy copyX oi.b w (by rw [← hy]; simp [World.cell?, p1, y1])).mono ?_
    rintro e w' ⟨rfl, rfl⟩
    exact ⟨g, _, hg, Step.refl, _, h, .tu [] #[] rfl (by simp)⟩
end Go.Proofs.YtpbkhdeehlikfaaDoor

/- What functions come to: printed by exf.py. -/
namespace Go.Proofs.YtpbkhdeehlikfaaDoor
set_option linter.unusedVariables false
set_option linter.unusedSimpArgs false
set_option linter.unusedSectionVars false
open Go.RowKit
attribute [local irreducible] dfun dround
/-- (*strings.Builder).WriteString -/
def H49 : List (Nat × Hint) := []
def J49 : List (Nat × Hint) := []
abbrev S49 : List Sh := [.pt 0 0, .leaf]
abbrev L49 : List Lf := [.str, .sl .u8]
abbrev O49 : List ObSh := [.cells [.pt 0 0, .oa .u8 1], .arr .u8]
def F49 (g : prodL L49) (K : Kn) : Prop :=
  Room (g.2.1.length + (strB g.1).length) 1 (
  K (.tu [.int .i64 (g.1.size : Int), .cst .nilIface]) [some (.cells [.pt 0 0, .oa .u8 1 0]), some (.arr 0 .u8 (g.2.1 ++ (strB g.1)))])
theorem F49_eq (g : prodL L49) (K X : Kn) : F49 g K = dfun D (gamX [(58, rw58)] []) (isRaw [(58, rw58)]) H49 J49 19 [.tmp 4, .tmp 5] (codeOf Tryd.f49) (argsT S49 L49 g) (storeT S49 O49 L49 g) (settleD (storeT S49 O49 L49 g).length 0 K) X 0 := by kernel_rfl
theorem F49_ok (g : prodL L49) (K X : Kn) (h : F49 g K) : FCalls Tryd.prog 49 (argsT S49 L49 g) (storeT S49 O49 L49 g) K X 0 :=
  FCalls.settleD (dfun_sound (Γ := gamX [(58, rw58)] []) (mu := isRaw [(58, rw58)]) (H := H49) (J := J49) D_ok (gamX_ok (rs := [(58, rw58)]) (l := []) (by intro p hp; simp only [List.mem_cons, List.not_mem_nil, or_false] at hp; subst hp; exact rw58_ok) (fun p hp => by cases hp)) gamX_det rfl Tryd.func49 (c := codeOf Tryd.f49) rfl Tryd.ntmps49 (rs := [.tmp 4, .tmp 5]) Tryd.results49 (by unfold enters; rw [Tryd.func49]; kernel_rfl) (Nat.le_of_ble_eq_true (by kernel_rfl)) (X := X) (c0 := 0) (Eq.mp (F49_eq g K X) h))
def rw49 : Raw := ⟨S49, O49, L49, 0, fun g K _ => F49 g K⟩
theorem rw49_ok : rw49.Ok Tryd.prog 49 := fun g K X h => F49_ok g K X h
/-- (*strings.Builder).WriteByte -/
def H50 : List (Nat × Hint) := []
def J50 : List (Nat × Hint) := []
abbrev S50 : List Sh := [.pt 0 0, .leaf]
abbrev L50 : List Lf := [.int .u8, .sl .u8]
abbrev O50 : List ObSh := [.cells [.pt 0 0, .oa .u8 1], .arr .u8]
def F50 (g : prodL L50) (K : Kn) : Prop :=
  Room (g.2.1.length + [g.1].length) 1 (
  K (.cst .nilIface) [some (.cells [.pt 0 0, .oa .u8 1 0]), some (.arr 0 .u8 (g.2.1 ++ [g.1]))])
theorem F50_eq (g : prodL L50) (K X : Kn) : F50 g K = dfun D (gamX [(58, rw58)] []) (isRaw [(58, rw58)]) H50 J50 17 [.tmp 4] (codeOf Tryd.f50) (argsT S50 L50 g) (storeT S50 O50 L50 g) (settleD (storeT S50 O50 L50 g).length 0 K) X 0 := by kernel_rfl
theorem F50_ok (g : prodL L50) (K X : Kn) (h : F50 g K) : FCalls Tryd.prog 50 (argsT S50 L50 g) (storeT S50 O50 L50 g) K X 0 :=
  FCalls.settleD (dfun_sound (Γ := gamX [(58, rw58)] []) (mu := isRaw [(58, rw58)]) (H := H50) (J := J50) D_ok (gamX_ok (rs := [(58, rw58)]) (l := []) (by intro p hp; simp only [List.mem_cons, List.not_mem_nil, or_false] at hp; subst hp; exact rw58_ok) (fun p hp => by cases hp)) gamX_det rfl Tryd.func50 (c := codeOf Tryd.f50) rfl Tryd.ntmps50 (rs := [.tmp 4]) Tryd.results50 (by unfold enters; rw [Tryd.func50]; kernel_rfl) (Nat.le_of_ble_eq_true (by kernel_rfl)) (X := X) (c0 := 0) (Eq.mp (F50_eq g K X) h))
def rw50 : Raw := ⟨S50, O50, L50, 0, fun g K _ => F50 g K⟩
theorem rw50_ok : rw50.Ok Tryd.prog 50 := fun g K X h => F50_ok g K X h
end Go.Proofs.YtpbkhdeehlikfaaDoor

/-
  Csexp: what encode writes.
-/
namespace Go.Proofs.YtpbkhdeehlikfaaDoor
set_option linter.unusedVariables false
set_option linter.unusedSimpArgs false
set_option linter.unusedSectionVars false
open Go.RowKit

def encI (x : Sx) : List Int := (encL x).map fun b => (b.toNat : Int)
def encP (x : Sx) (bs : List Int) : Prop := bkS x ≤ lim ∧ bs.length + 22 * bkS x ≤ 70368744177664
def encPre (g : prodL [.bool, .str, .sl .sexp, .sl .u8]) : Prop := encP ⟨g.1, g.2.1, g.2.2.1⟩ g.2.2.2.1
def encF (g : prodL [.bool, .str, .sl .sexp, .sl .u8]) (K _ : Kn) : Prop :=
  K (.tu []) [some (.cells [.pt 0 0, .oa .u8 1 0]), some (.arr 0 .u8 (g.2.2.2.1 ++ encI ⟨g.1, g.2.1, g.2.2.1⟩))]
end Go.Proofs.YtpbkhdeehlikfaaDoor

/- What functions come to: printed by exf.py. -/
namespace Go.Proofs.YtpbkhdeehlikfaaDoor
set_option linter.unusedVariables false
set_option linter.unusedSimpArgs false
set_option linter.unusedSectionVars false
open Go.RowKit
attribute [local irreducible] dfun dround
/-- quilt/csexp.encode -/
def H38 : List (Nat × Hint) := [(7, ⟨[], [(0, .pt 0 0), (24, .leaf), (25, .leaf), (26, .leaf)], [.cells [.pt 0 0, .oa .u8 1], .arr .u8], [.sl .sexp, .int .i64, .int .i64, .sl .u8]⟩)]
def J38 : List (Nat × Hint) := []
abbrev S38 : List Sh := [.pt 0 0, .ag [.leaf, .leaf, .leaf]]
abbrev L38 : List Lf := [.bool, .str, .sl .sexp, .sl .u8]
abbrev O38 : List ObSh := [.cells [.pt 0 0, .oa .u8 1], .arr .u8]
def rwz38 (Z : prodL L38 → Prop) : Raw := ⟨S38, O38, L38, 0, fun g K X => Z g ∧ encF g K X⟩
def F38_B6 (K : Kn) (Z : prodL L38 → Prop) (W6 : prodL [.sl .sexp, .int .i64, .int .i64, .sl .u8] → Prop) (t_5 : List Sx) (t2_5 : Int) (t3_5 : Int) (o1_5 : List Int) : Prop :=
  bif decide (t3_5 < t2_5) then (
    At t_5 t3_5 fun u7 =>
  Z (u7.isList, u7.atom, u7.list, o1_5, ()) ∧
  W6 (t_5, t2_5, IntKind.i64.wrap (t3_5 + 1), (o1_5 ++ encI ⟨u7.isList, u7.atom, u7.list⟩), ()))
  else (
    let g8 : prodL [.int .u8, .sl .u8] := (41, o1_5, ());
  Room (g8.2.1.length + [g8.1].length) 1 (
  K (.tu []) [some (.cells [.pt 0 0, .oa .u8 1 0]), some (.arr 0 .u8 (g8.2.1 ++ [g8.1]))]))
def F38_L6 (K : Kn) (Z : prodL L38 → Prop) (g : prodL [.sl .sexp, .int .i64, .int .i64, .sl .u8]) : Prop :=
  LoopW (γ := prodL [.sl .sexp, .int .i64, .int .i64, .sl .u8]) (fun V y => F38_B6 K Z V y.1 y.2.1 y.2.2.1 y.2.2.2.1) g
def F38 (Z : prodL L38 → Prop) (g : prodL L38) (K : Kn) : Prop :=
  bif !g.1 then (
    sp31.pre ((g.2.1.size : Int), ()) ∧
    let g1 : prodL [.str, .sl .u8] := ((decB (g.2.1.size : Int)), g.2.2.2.1, ());
    Room (g1.2.1.length + (strB g1.1).length) 1 (
    let g2 : prodL [.int .u8, .sl .u8] := (58, g1.2.1 ++ (strB g1.1), ());
    Room (g2.2.1.length + [g2.1].length) 1 (
    let g3 : prodL [.str, .sl .u8] := (g.2.1, g2.2.1 ++ [g2.1], ());
    Room (g3.2.1.length + (strB g3.1).length) 1 (
    K (.tu []) [some (.cells [.pt 0 0, .oa .u8 1 0]), some (.arr 0 .u8 (g3.2.1 ++ (strB g3.1)))]))))
  else (
    let g4 : prodL [.int .u8, .sl .u8] := (40, g.2.2.2.1, ());
  Room (g4.2.1.length + [g4.1].length) 1 (
  F38_L6 K Z (g.2.2.1, (g.2.2.1.length : Int), 0, g4.2.1 ++ [g4.1], ())))
theorem F38_eq (Z : prodL L38 → Prop) (g : prodL L38) (K X : Kn) : F38 Z g K = dfun D (gamX [(38, rwz38 Z), (49, rw49), (50, rw50)] [(31, true, sp31)]) (isRaw [(38, rwz38 Z), (49, rw49), (50, rw50)]) H38 J38 36 [] (codeOf Tryd.f38) (argsT S38 L38 g) (storeT S38 O38 L38 g) (settleD (storeT S38 O38 L38 g).length 0 K) X 0 := by kernel_rfl
theorem F38_ok (Z : prodL L38 → Prop) (hZ : (rwz38 Z).Ok Tryd.prog 38) (g : prodL L38) (K X : Kn) (h : F38 Z g K) : FCalls Tryd.prog 38 (argsT S38 L38 g) (storeT S38 O38 L38 g) K X 0 :=
  FCalls.settleD (dfun_sound (Γ := gamX [(38, rwz38 Z), (49, rw49), (50, rw50)] [(31, true, sp31)]) (mu := isRaw [(38, rwz38 Z), (49, rw49), (50, rw50)]) (H := H38) (J := J38) D_ok (gamX_ok (rs := [(38, rwz38 Z), (49, rw49), (50, rw50)]) (l := [(31, true, sp31)]) (by intro p hp; simp only [List.mem_cons, List.not_mem_nil, or_false] at hp; rcases hp with rfl | rfl | rfl <;> first | exact hZ | exact rw49_ok | exact rw50_ok) (by intro p hp; simp only [List.mem_cons, List.not_mem_nil, or_false] at hp; subst hp; exact sp31_ok)) gamX_det rfl Tryd.func38 (c := codeOf Tryd.f38) rfl Tryd.ntmps38 (rs := []) Tryd.results38 (by unfold enters; rw [Tryd.func38]; kernel_rfl) (Nat.le_of_ble_eq_true (by kernel_rfl)) (X := X) (c0 := 0) (Eq.mp (F38_eq Z g K X) h))
end Go.Proofs.YtpbkhdeehlikfaaDoor

/-
  Csexp: encode on a used builder.
-/
namespace Go.Proofs.YtpbkhdeehlikfaaDoor
set_option linter.unusedVariables false
set_option linter.unusedSimpArgs false
set_option linter.unusedSectionVars false
open Go.RowKit

def encsI (l : List Sx) : List Int := (encLs l).map fun b => (b.toNat : Int)
theorem strB_bl (s : ByteArray) : strB s = (bl s).map fun b => (b.toNat : Int) := rfl
theorem strB_len (s : ByteArray) : (strB s).length = s.size := by rw [strB_bl, List.length_map, bl_len]
theorem encI_len {x : Sx} (h : bkS x ≤ lim) : (encI x).length ≤ 22 * bkS x := by unfold encI; rw [List.length_map]; exact encL_len x h
theorem encI_atom (a : ByteArray) (l : List Sx) : encI ⟨false, a, l⟩ = strB (decB (a.size : Int)) ++ (58 :: strB a) := by
  unfold encI
  simp only [encL, if_true, strB_bl, bl_dec, List.map_append, List.map_cons]
  rw [Lib.itoa, if_neg (by omega), Int.toNat_natCast]
  rfl
theorem encI_list (a : ByteArray) (l : List Sx) : encI ⟨true, a, l⟩ = 40 :: (encsI l ++ [41]) := by
  unfold encI encsI
  simp [encL]
theorem F38_is {Z : prodL L38 → Prop} {b : Bool} {a : ByteArray} {l : List Sx} {bs : List Int} {K X : Kn} (hp : encP ⟨b, a, l⟩ bs) (hZ : ∀ x ∈ l, ∀ cs, encP x cs → Z (x.isList, x.atom, x.list, cs, ())) (h : encF (b, a, l, bs, ()) K X) : F38 Z (b, a, l, bs, ()) K := by
  obtain ⟨hk, hz⟩ := hp
  obtain ⟨hs, hsz, hbl, _⟩ := small hk
  have hl := lim_eq
  unfold encF at h
  unfold F38
  simp only [bkS] at hz
  dsimp only [Lf.ty, prodL] at h ⊢
  cases b
  · rw [encI_atom] at h
    have hn : intP (a.size : Int) := (⟨by omega, by omega⟩ : -9223372036854775808 ≤ (a.size : Int) ∧ (a.size : Int) ≤ 9223372036854775807)
    have hd := decB_size hn
    simp only [Bool.not_false, cond_true]
    refine ⟨hn, ?_, ?_, ?_, ?_⟩
    · rw [strB_len]; omega
    · simp only [List.length_append, strB_len, List.length_cons, List.length_nil]; omega
    · simp only [List.length_append, strB_len, List.length_cons, List.length_nil]; omega
    · rw [show ((bs ++ strB (decB (a.size : Int))) ++ [58]) ++ strB a = bs ++ (strB (decB (a.size : Int)) ++ (58 :: strB a)) by simp]
      exact h
  · rw [encI_list] at h
    simp only [Bool.not_true, cond_false]
    refine ⟨by simp only [List.length_cons, List.length_nil]; omega, ?_⟩
    unfold F38_L6
    refine LoopW.fold l (fun n (cs : List Int) => (l, (l.length : Int), (n : Int), cs, ())) (fun r _ cs => K (.tu []) [some (.cells [.pt 0 0, .oa .u8 1 0]), some (.arr 0 .u8 (cs ++ (encsI r ++ [41])))] ∧ cs.length + 22 * bkSs r ≤ 70368744177664) (a0 := bs ++ [40]) rfl ⟨?_, by simp only [List.length_append, List.length_cons, List.length_nil]; omega⟩ (fun cs hp W => ?_) (fun n hn r cs hr hp W hW => ?_)
    · rw [List.append_assoc]; exact h
    · obtain ⟨p1, p2⟩ := hp
      unfold F38_B6
      rw [bif_dec, if_neg (by dsimp only; omega)]
      simp only [bkSs] at p2
      exact ⟨by simp only [List.length_cons, List.length_nil]; omega, p1⟩
    · obtain ⟨p1, p2⟩ := hp
      unfold F38_B6
      rw [bif_dec, if_pos (by dsimp only; omega)]
      have hx : bkS l[n] ≤ bkSs l := mem_bk (List.getElem_mem hn)
      have he := encI_len (x := l[n]) (by omega)
      simp only [bkSs] at p2
      refine At_of hn ⟨hZ _ (List.getElem_mem hn) cs ⟨by omega, by omega⟩, ?_⟩
      rw [Sx.eta, wrapS hn hs]
      refine hW (cs ++ encI l[n]) ⟨?_, ?_⟩
      · have e : encsI (l[n] :: r) = encI l[n] ++ encsI r := by unfold encsI encI; simp [encLs]
        rw [e] at p1
        rw [List.append_assoc, ← List.append_assoc (encI l[n])]
        exact p1
      · rw [List.length_append]; omega
def rw38 : Raw := rwz38 encPre
theorem rw38_all : ∀ n : Nat, (rwz38 fun g => encPre g ∧ nodesS ⟨g.1, g.2.1, g.2.2.1⟩ < n).Ok Tryd.prog 38
  | 0 => fun g K X h => absurd h.1.2 (Nat.not_lt_zero _)
  | n + 1 => fun g K X h => F38_ok _ (rw38_all n) g K X (F38_is h.1.1 (fun x hx cs hc => ⟨(by show encP ⟨_, _, _⟩ _; rw [Sx.eta]; exact hc), by
      have h1 := ((small h.1.1.1).2.2.2 x hx).2
      have h2 := h.1.2
      dsimp only at *
      omega⟩) h.2)
theorem rw38_ok : rw38.Ok Tryd.prog 38 := fun g K X h => rw38_all (nodesS ⟨g.1, g.2.1, g.2.2.1⟩ + 1) g K X ⟨⟨h.1, Nat.lt_succ_self _⟩, h.2⟩
end Go.Proofs.YtpbkhdeehlikfaaDoor
