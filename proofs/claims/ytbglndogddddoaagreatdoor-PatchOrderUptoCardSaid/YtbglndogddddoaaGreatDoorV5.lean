import Derived.Shelf.Strings.Builder1
import Derived.WalkKit
import Derived.Lib.Bytealg
import Derived.Shelf.RegionOpenPlain
import Derived.Lib.Walk
import Derived.Lib.BytesEntry
import Derived.BigCall
import Derived.BigGuard
import Derived.Deep.Draws
import Derived.Test.YtbglndogddddoaaGreatDoorV4
set_option linter.unusedVariables false
set_option linter.unusedSimpArgs false
set_option linter.unusedSectionVars false
namespace Go.Proofs.YtbglndogddddoaaGreatDoor
open Go.RowKit Go.Shelf
def laysCopy_ren : Go.Shelf.Ren := ⟨fun | 240 => 229 | 276 => 237 | n => n, fun | 70 => 187 | 72 => 189 | 37 => 69 | 164 => 244 | n => n, fun n => n⟩
theorem laysCopy : Go.Proofs.Lays.n240 Tryz.prog laysCopy_ren := {
 mixed := by kernel_rfl
 f240 := Tryz.func229.trans (congrArg some (by kernel_rfl))
 f276 := Tryz.func237.trans (congrArg some (by kernel_rfl))
 t0 := Tryz.underlying0
 a0 := Tryz.isAgg0
 z0 := Tryz.sizeOf0
 v0 := Tryz.zeroValue0
 t4 := Tryz.underlying4
 a4 := Tryz.isAgg4
 z4 := Tryz.sizeOf4
 v4 := Tryz.zeroValue4
 t9 := Tryz.underlying9
 a9 := Tryz.isAgg9
 z9 := Tryz.sizeOf9
 v9 := Tryz.zeroValue9
 t20 := Tryz.underlying20
 a20 := Tryz.isAgg20
 z20 := Tryz.sizeOf20
 v20 := Tryz.zeroValue20
 t70 := Tryz.underlying187
 a70 := Tryz.isAgg187
 z70 := Tryz.sizeOf187
 v70 := Tryz.zeroValue187
 t72 := Tryz.underlying189
 a72 := Tryz.isAgg189
 z72 := Tryz.sizeOf189
 v72 := Tryz.zeroValue189
 t164 := Tryz.underlying244
 a164 := Tryz.isAgg244
 z164 := Tryz.sizeOf244
 v164 := Tryz.zeroValue244 }
theorem copyX : Builder.X72 Tryz.prog laysCopy_ren := { sizeBuilder := by kernel_rfl, liesBuilder := by kernel_rfl }
abbrev bdrO : List ObSh := [.cells [.pt 0 0, .oa .u8 1], .arr .u8]
def rw229 : Raw := ⟨[.pt 0 0], bdrO, [.sl .u8], 0, fun g K _ => K (.tu []) [some (.cells [.pt 0 0, .oa .u8 1 0]), some (.arr 0 .u8 g.1)]⟩
theorem rw229_ok : rw229.Ok Tryz.prog 229 := by
 rintro ⟨bs, ⟨⟩⟩ K X h g w hg
 have h : K (.tu []) [some (.cells [.pt 0 0, .oa .u8 1 0]), some (.arr 0 .u8 bs)] := h
 have hg : Good g [some (.cells [.pt 0 0, .oa .u8 1 0]), some (.arr 0 .u8 bs)] w := hg
 refine Atc.of (by kernel_rfl) fun args hr => ?_
 obtain ⟨x, rfl, hx⟩ := rl_one hr
 obtain ⟨oi, o1, _, o3⟩ := hg.obj 0 _ rfl
 have o1 : g.ob 0 0 = some oi := o1
 have hx : R g (.pt 0 0) x := hx
 cases hx with
 | pt _ _ oi' h1 =>
  rw [o1] at h1
  simp only [Option.some.injEq] at h1
  subst h1
  rcases o3 with o3 | ⟨_, blk, E, fr, p1, _, p3, _⟩
  . cases o3.1
  have p1 : w.heap[oi.b]? = some (.cells blk E fr) := p1
  obtain ⟨y, y1, _, y3⟩ := p3.at_ 0 _ rfl
  have hy : y = .pointer (some ⟨oi.b, 0, none⟩) := by
   cases y3 with
   | pt _ _ oi' h1 =>
    rw [o1] at h1
    simp only [Option.some.injEq] at h1
    subst h1
    rfl
  refine (Any.Builder_copyCheck_used laysCopy copyX oi.b w (by rw [<- hy]; simp [World.cell?, p1, y1])).mono ?_
  rintro e w' ⟨rfl, rfl⟩
  exact ⟨g, _, hg, Step.refl, _, h, .tu [] #[] rfl (by simp)⟩
end Go.Proofs.YtbglndogddddoaaGreatDoor
namespace Go.Proofs.YtbglndogddddoaaGreatDoor
open Go.RowKit
attribute [local irreducible] dfun dround
def H210 : List (Nat × Hint) := []
def J210 : List (Nat × Hint) := []
abbrev S210 : List Sh := [.pt 0 0, .leaf]
abbrev L210 : List Lf := [.str, .sl .u8]
abbrev O210 : List ObSh := [.cells [.pt 0 0, .oa .u8 1], .arr .u8]
def F210 (g : prodL L210) (K : Kn) : Prop :=
 Room (g.2.1.length + (strB g.1).length) 1 (
 K (.tu [.int .i64 (g.1.size : Int), .cst .nilIface]) [some (.cells [.pt 0 0, .oa .u8 1 0]), some (.arr 0 .u8 (g.2.1 ++ (strB g.1)))])
theorem F210_eq (g : prodL L210) (K X : Kn) : F210 g K = dfun D (gamX [(229, rw229)] []) (isRaw [(229, rw229)]) H210 J210 19 [.tmp 4, .tmp 5] (codeOf Tryz.f210) (argsT S210 L210 g) (storeT S210 O210 L210 g) (settleD (storeT S210 O210 L210 g).length 0 K) X 0 := by kernel_rfl
theorem F210_ok (g : prodL L210) (K X : Kn) (h : F210 g K) : FCalls Tryz.prog 210 (argsT S210 L210 g) (storeT S210 O210 L210 g) K X 0 :=
 FCalls.settleD (dfun_sound (Γ := gamX [(229, rw229)] []) (mu := isRaw [(229, rw229)]) (H := H210) (J := J210) D_ok (gamX_ok (rs := [(229, rw229)]) (l := []) (by intro p hp; simp only [List.mem_cons, List.not_mem_nil, or_false] at hp; subst hp; exact rw229_ok) (fun p hp => by cases hp)) gamX_det rfl Tryz.func210 (c := codeOf Tryz.f210) rfl Tryz.ntmps210 (rs := [.tmp 4, .tmp 5]) Tryz.results210 (by unfold enters; rw [Tryz.func210]; kernel_rfl) (Nat.le_of_ble_eq_true (by kernel_rfl)) (X := X) (c0 := 0) (Eq.mp (F210_eq g K X) h))
def rw210 : Raw := ⟨S210, O210, L210, 0, fun g K _ => F210 g K⟩
theorem rw210_ok : rw210.Ok Tryz.prog 210 := fun g K X h => F210_ok g K X h
def H211 : List (Nat × Hint) := []
def J211 : List (Nat × Hint) := []
abbrev S211 : List Sh := [.pt 0 0, .leaf]
abbrev L211 : List Lf := [.int .u8, .sl .u8]
abbrev O211 : List ObSh := [.cells [.pt 0 0, .oa .u8 1], .arr .u8]
def F211 (g : prodL L211) (K : Kn) : Prop :=
 Room (g.2.1.length + [g.1].length) 1 (
 K (.cst .nilIface) [some (.cells [.pt 0 0, .oa .u8 1 0]), some (.arr 0 .u8 (g.2.1 ++ [g.1]))])
theorem F211_eq (g : prodL L211) (K X : Kn) : F211 g K = dfun D (gamX [(229, rw229)] []) (isRaw [(229, rw229)]) H211 J211 17 [.tmp 4] (codeOf Tryz.f211) (argsT S211 L211 g) (storeT S211 O211 L211 g) (settleD (storeT S211 O211 L211 g).length 0 K) X 0 := by kernel_rfl
theorem F211_ok (g : prodL L211) (K X : Kn) (h : F211 g K) : FCalls Tryz.prog 211 (argsT S211 L211 g) (storeT S211 O211 L211 g) K X 0 :=
 FCalls.settleD (dfun_sound (Γ := gamX [(229, rw229)] []) (mu := isRaw [(229, rw229)]) (H := H211) (J := J211) D_ok (gamX_ok (rs := [(229, rw229)]) (l := []) (by intro p hp; simp only [List.mem_cons, List.not_mem_nil, or_false] at hp; subst hp; exact rw229_ok) (fun p hp => by cases hp)) gamX_det rfl Tryz.func211 (c := codeOf Tryz.f211) rfl Tryz.ntmps211 (rs := [.tmp 4]) Tryz.results211 (by unfold enters; rw [Tryz.func211]; kernel_rfl) (Nat.le_of_ble_eq_true (by kernel_rfl)) (X := X) (c0 := 0) (Eq.mp (F211_eq g K X) h))
def rw211 : Raw := ⟨S211, O211, L211, 0, fun g K _ => F211 g K⟩
theorem rw211_ok : rw211.Ok Tryz.prog 211 := fun g K X h => F211_ok g K X h
end Go.Proofs.YtbglndogddddoaaGreatDoor
namespace Go.Proofs.YtbglndogddddoaaGreatDoor
open Go.RowKit
def encI (x : Sx) : List Int := (encL x).map fun b => (b.toNat : Int)
def encP (x : Sx) (bs : List Int) : Prop := bkS x <= lim /\ bs.length + 22 * bkS x <= 70368744177664
def encPre (g : prodL [.bool, .str, .sl .sexp, .sl .u8]) : Prop := encP ⟨g.1, g.2.1, g.2.2.1⟩ g.2.2.2.1
def encF (g : prodL [.bool, .str, .sl .sexp, .sl .u8]) (K _ : Kn) : Prop :=
 K (.tu []) [some (.cells [.pt 0 0, .oa .u8 1 0]), some (.arr 0 .u8 (g.2.2.2.1 ++ encI ⟨g.1, g.2.1, g.2.2.1⟩))]
end Go.Proofs.YtbglndogddddoaaGreatDoor
namespace Go.Proofs.YtbglndogddddoaaGreatDoor
open Go.RowKit
attribute [local irreducible] dfun dround
def H171 : List (Nat × Hint) := [(7, ⟨[], [(0, .pt 0 0), (24, .leaf), (25, .leaf), (26, .leaf)], [.cells [.pt 0 0, .oa .u8 1], .arr .u8], [.sl .sexp, .int .i64, .int .i64, .sl .u8]⟩)]
def J171 : List (Nat × Hint) := []
abbrev S171 : List Sh := [.pt 0 0, .ag [.leaf, .leaf, .leaf]]
abbrev L171 : List Lf := [.bool, .str, .sl .sexp, .sl .u8]
abbrev O171 : List ObSh := [.cells [.pt 0 0, .oa .u8 1], .arr .u8]
def rwz171 (Z : prodL L171 -> Prop) : Raw := ⟨S171, O171, L171, 0, fun g K X => Z g /\ encF g K X⟩
def F171_B6 (K : Kn) (Z : prodL L171 -> Prop) (W6 : prodL [.sl .sexp, .int .i64, .int .i64, .sl .u8] -> Prop) (t_5 : List Sx) (t2_5 t3_5 : Int) (o1_5 : List Int) : Prop :=
 bif decide (t3_5 < t2_5) then (
  At t_5 t3_5 fun u7 =>
 Z (u7.isList, u7.atom, u7.list, o1_5, ()) /\
 W6 (t_5, t2_5, IntKind.i64.wrap (t3_5 + 1), (o1_5 ++ encI ⟨u7.isList, u7.atom, u7.list⟩), ()))
 else (
  let g8 : prodL [.int .u8, .sl .u8] := (41, o1_5, ());
 Room (g8.2.1.length + [g8.1].length) 1 (
 K (.tu []) [some (.cells [.pt 0 0, .oa .u8 1 0]), some (.arr 0 .u8 (g8.2.1 ++ [g8.1]))]))
def F171_L6 (K : Kn) (Z : prodL L171 -> Prop) (g : prodL [.sl .sexp, .int .i64, .int .i64, .sl .u8]) : Prop :=
 LoopW (γ := prodL [.sl .sexp, .int .i64, .int .i64, .sl .u8]) (fun V y => F171_B6 K Z V y.1 y.2.1 y.2.2.1 y.2.2.2.1) g
def F171 (Z : prodL L171 -> Prop) (g : prodL L171) (K : Kn) : Prop :=
 bif !g.1 then (
  sp209.pre ((g.2.1.size : Int), ()) /\
  let g1 : prodL [.str, .sl .u8] := ((decB (g.2.1.size : Int)), g.2.2.2.1, ());
  Room (g1.2.1.length + (strB g1.1).length) 1 (
  let g2 : prodL [.int .u8, .sl .u8] := (58, g1.2.1 ++ (strB g1.1), ());
  Room (g2.2.1.length + [g2.1].length) 1 (
  let g3 : prodL [.str, .sl .u8] := (g.2.1, g2.2.1 ++ [g2.1], ());
  Room (g3.2.1.length + (strB g3.1).length) 1 (
  K (.tu []) [some (.cells [.pt 0 0, .oa .u8 1 0]), some (.arr 0 .u8 (g3.2.1 ++ (strB g3.1)))]))))
 else (
  let g4 : prodL [.int .u8, .sl .u8] := (40, g.2.2.2.1, ());
 Room (g4.2.1.length + [g4.1].length) 1 (
 F171_L6 K Z (g.2.2.1, (g.2.2.1.length : Int), 0, g4.2.1 ++ [g4.1], ())))
theorem F171_eq (Z : prodL L171 -> Prop) (g : prodL L171) (K X : Kn) : F171 Z g K = dfun D (gamX [(171, rwz171 Z), (210, rw210), (211, rw211)] [(209, true, sp209)]) (isRaw [(171, rwz171 Z), (210, rw210), (211, rw211)]) H171 J171 36 [] (codeOf Tryz.f171) (argsT S171 L171 g) (storeT S171 O171 L171 g) (settleD (storeT S171 O171 L171 g).length 0 K) X 0 := by kernel_rfl
theorem F171_ok (Z : prodL L171 -> Prop) (hZ : (rwz171 Z).Ok Tryz.prog 171) (g : prodL L171) (K X : Kn) (h : F171 Z g K) : FCalls Tryz.prog 171 (argsT S171 L171 g) (storeT S171 O171 L171 g) K X 0 :=
 FCalls.settleD (dfun_sound (Γ := gamX [(171, rwz171 Z), (210, rw210), (211, rw211)] [(209, true, sp209)]) (mu := isRaw [(171, rwz171 Z), (210, rw210), (211, rw211)]) (H := H171) (J := J171) D_ok (gamX_ok (rs := [(171, rwz171 Z), (210, rw210), (211, rw211)]) (l := [(209, true, sp209)]) (by intro p hp; simp only [List.mem_cons, List.not_mem_nil, or_false] at hp; rcases hp with rfl | rfl | rfl <;> first | exact hZ | exact rw210_ok | exact rw211_ok) (by intro p hp; simp only [List.mem_cons, List.not_mem_nil, or_false] at hp; subst hp; exact sp209_ok)) gamX_det rfl Tryz.func171 (c := codeOf Tryz.f171) rfl Tryz.ntmps171 (rs := []) Tryz.results171 (by unfold enters; rw [Tryz.func171]; kernel_rfl) (Nat.le_of_ble_eq_true (by kernel_rfl)) (X := X) (c0 := 0) (Eq.mp (F171_eq Z g K X) h))
end Go.Proofs.YtbglndogddddoaaGreatDoor
namespace Go.Proofs.YtbglndogddddoaaGreatDoor
open Go.RowKit
def encsI (l : List Sx) : List Int := (encLs l).map fun b => (b.toNat : Int)
theorem strB_bl (s : ByteArray) : strB s = (bl s).map fun b => (b.toNat : Int) := rfl
theorem encI_len {x : Sx} (h : bkS x <= lim) : (encI x).length <= 22 * bkS x := by unfold encI; rw [List.length_map]; exact encL_len x h
theorem encI_atom (a : ByteArray) (l : List Sx) : encI ⟨false, a, l⟩ = strB (decB (a.size : Int)) ++ (58 :: strB a) := by
 unfold encI
 simp only [encL, if_true, strB_bl, bl_dec, List.map_append, List.map_cons]
 rw [Lib.itoa, if_neg (by omega), Int.toNat_natCast]
 rfl
theorem encI_list (a : ByteArray) (l : List Sx) : encI ⟨true, a, l⟩ = 40 :: (encsI l ++ [41]) := by
 unfold encI encsI
 simp [encL]
theorem F171_is {Z : prodL L171 -> Prop} {b : Bool} {a : ByteArray} {l : List Sx} {bs : List Int} {K X : Kn} (hp : encP ⟨b, a, l⟩ bs) (hZ : ∀ x ∈ l, ∀ cs, encP x cs -> Z (x.isList, x.atom, x.list, cs, ())) (h : encF (b, a, l, bs, ()) K X) : F171 Z (b, a, l, bs, ()) K := by
 obtain ⟨hk, hz⟩ := hp
 obtain ⟨hs, hsz, hbl, _⟩ := small hk
 have hl := lim_eq
 unfold encF at h
 unfold F171
 simp only [bkS] at hz
 dsimp only [Lf.ty, prodL] at h ⊢
 cases b
 . rw [encI_atom] at h
   have hn : intP (a.size : Int) := (⟨by omega, by omega⟩ : -9223372036854775808 <= (a.size : Int) /\ (a.size : Int) <= 9223372036854775807)
   have hd := decB_size hn
   simp only [Bool.not_false, cond_true]
   refine ⟨hn, ?_, ?_, ?_, ?_⟩
   . rw [strB_len]; omega
   . simp only [List.length_append, strB_len, List.length_cons, List.length_nil]; omega
   . simp only [List.length_append, strB_len, List.length_cons, List.length_nil]; omega
   . rw [show ((bs ++ strB (decB (a.size : Int))) ++ [58]) ++ strB a = bs ++ (strB (decB (a.size : Int)) ++ (58 :: strB a)) by simp]
     exact h
 . rw [encI_list] at h
   simp only [Bool.not_true, cond_false]
   refine ⟨by simp only [List.length_cons, List.length_nil]; omega, ?_⟩
   unfold F171_L6
   refine LoopW.fold l (fun n (cs : List Int) => (l, (l.length : Int), (n : Int), cs, ())) (fun r _ cs => K (.tu []) [some (.cells [.pt 0 0, .oa .u8 1 0]), some (.arr 0 .u8 (cs ++ (encsI r ++ [41])))] /\ cs.length + 22 * bkSs r <= 70368744177664) (a0 := bs ++ [40]) rfl ⟨?_, by simp only [List.length_append, List.length_cons, List.length_nil]; omega⟩ (fun cs hp W => ?_) (fun n hn r cs hr hp W hW => ?_)
   . rw [List.append_assoc]; exact h
   . obtain ⟨p1, p2⟩ := hp
     unfold F171_B6
     rw [bif_dec, if_neg (by dsimp only; omega)]
     simp only [bkSs] at p2
     exact ⟨by simp only [List.length_cons, List.length_nil]; omega, p1⟩
   . obtain ⟨p1, p2⟩ := hp
     unfold F171_B6
     rw [bif_dec, if_pos (by dsimp only; omega)]
     have hx : bkS l[n] <= bkSs l := mem_bk (List.getElem_mem hn)
     have he := encI_len (x := l[n]) (by omega)
     simp only [bkSs] at p2
     refine At_of hn ⟨hZ _ (List.getElem_mem hn) cs ⟨by omega, by omega⟩, ?_⟩
     rw [Sx.eta, wrapS hn hs]
     refine hW (cs ++ encI l[n]) ⟨?_, ?_⟩
     . have e : encsI (l[n] :: r) = encI l[n] ++ encsI r := by unfold encsI encI; simp [encLs]
       rw [e] at p1
       rw [List.append_assoc, <- List.append_assoc (encI l[n])]
       exact p1
     . rw [List.length_append]; omega
def rw171 : Raw := rwz171 encPre
theorem rw171_all : ∀ n : Nat, (rwz171 fun g => encPre g /\ nodesS ⟨g.1, g.2.1, g.2.2.1⟩ < n).Ok Tryz.prog 171
 | 0 => fun g K X h => absurd h.1.2 (Nat.not_lt_zero _)
 | n + 1 => fun g K X h => F171_ok _ (rw171_all n) g K X (F171_is h.1.1 (fun x hx cs hc => ⟨(by show encP ⟨_, _, _⟩ _; rw [Sx.eta]; exact hc), by
   have h1 := ((small h.1.1.1).2.2.2 x hx).2
   have h2 := h.1.2
   dsimp only at *
   omega⟩) h.2)
theorem rw171_ok : rw171.Ok Tryz.prog 171 := fun g K X h => rw171_all (nodesS ⟨g.1, g.2.1, g.2.2.1⟩ + 1) g K X ⟨⟨h.1, Nat.lt_succ_self _⟩, h.2⟩
end Go.Proofs.YtbglndogddddoaaGreatDoor
namespace Go.Proofs.YtbglndogddddoaaGreatDoor
open Go.RowKit Go.Shelf
theorem setCell_at {w : World} {b q : Nat} {blk : Array Value} {E : TypeId} {fr : Nat × Nat} (v : Value) (h : w.heap[b]? = some (.cells blk E fr)) : (w.setCell ⟨b, q, none⟩ v).heap[b]? = some (.cells (blk.setIfInBounds q v) E fr) := by
 simp [World.setCell, Array.getElem?_modify, h]
theorem setCell_else {w : World} {b q b' : Nat} (v : Value) (h : b' ≠ b) : (w.setCell ⟨b, q, none⟩ v).heap[b']? = w.heap[b']? := by
 simp [World.setCell, Array.getElem?_modify, Ne.symm h]
def rw229f : Raw := ⟨[.pt 0 0], [.cells [.fp, .nil]], [], 0, fun _ K _ => K (.tu []) [some (.cells [.pt 0 0, .nil])]⟩
theorem rw229f_ok : rw229f.Ok Tryz.prog 229 := by
 rintro ⟨⟩ K X h g w hg
 have h : K (.tu []) [some (.cells [.pt 0 0, .nil])] := h
 have hg : Good g [some (.cells [.fp, .nil])] w := hg
 refine Atc.of (by kernel_rfl) fun args hr => ?_
 obtain ⟨x, rfl, hx⟩ := rl_one hr
 obtain ⟨oi, o1, _, o3⟩ := hg.obj 0 _ rfl
 have o1 : g.ob 0 0 = some oi := o1
 have hx : R g (.pt 0 0) x := hx
 cases hx with
 | pt _ _ oi' h1 =>
  rw [o1] at h1
  simp only [Option.some.injEq] at h1
  subst h1
  rcases o3 with o3 | ⟨_, blk, E, fr, p1, p2, p3, p4⟩
  . cases o3.1
  have p1 : w.heap[oi.b]? = some (.cells blk E fr) := p1
  obtain ⟨y, y1, _, y3⟩ := p3.at_ 0 _ rfl
  obtain ⟨z, z1, z2, z3⟩ := p3.at_ 1 _ rfl
  have hy : y = .pointer none := by cases y3; rfl
  subst hy
  have p4 : (E == 189 && blk.size == 2) = true := p4
  simp only [Bool.and_eq_true, beq_iff_eq] at p4
  obtain ⟨rfl, hs⟩ := p4
  refine (Any.Builder_copyCheck_fresh laysCopy copyX oi.b w (by simp [World.cell?, p1, y1]) (by simp [World.shape?, p1, hs]; rfl) (by
   have := p2 0 (by omega)
   simp only [World.frozen?, p1]
   simpa using this)).mono ?_
  rintro e w' ⟨rfl, rfl⟩
  obtain ⟨k1, k2, k3⟩ := good_put (st' := [some (.cells [.pt 0 0, .nil])]) (k := 0) (v := 0) (o' := .cells [.pt 0 0, .nil]) (oi := oi) (w' := w.setCell ⟨oi.b, 0, none⟩ (.pointer (some ⟨oi.b, 0, none⟩))) hg (fun i => by cases i <;> simp) (by decide) (by decide) rfl (.inr o1) (fun u oi' hu => old_ver (o' := .cells [.fp, .nil]) hg rfl hu) trivial
   (fun _ => .inr ⟨_, rfl, blk_of o1 (by simp [isArr])⟩) rfl rfl rfl (by simp [World.setCell]) (fun b _ hb => setCell_else _ fun e => hb _ rfl (by rw [blk_of o1 (by simp [isArr]), e]))
   (fun _ => ⟨_, 189, fr, setCell_at _ p1, fun q hq => p2 q (by simpa using hq), ⟨by simp [obCells, hs], fun j u hj => by
    match j, hj with
    | 0, hj => simp [obCells] at hj; subst hj; exact ⟨_, by simp [hs], rfl, .pt 0 0 oi o1⟩
    | 1, hj => simp [obCells] at hj; subst hj; exact ⟨z, by simpa using z1, z2, z3⟩
    | j + 2, hj => simp [obCells] at hj⟩, rfl⟩) (fun o ho => by
    simp only [List.getElem?_cons_zero, Option.some.injEq] at ho; subst ho; exact ⟨_, rfl, rfl, o1⟩)
  exact ⟨_, _, k1, k2 _, _, h, .tu [] #[] rfl (by simp)⟩
end Go.Proofs.YtbglndogddddoaaGreatDoor
namespace Go.Proofs.YtbglndogddddoaaGreatDoor
open Go.RowKit
attribute [local irreducible] dfun dround
def H210f : List (Nat × Hint) := []
def J210f : List (Nat × Hint) := []
abbrev S210f : List Sh := [.pt 0 0, .leaf]
abbrev L210f : List Lf := [.str]
abbrev O210f : List ObSh := [.cells [.fp, .nil]]
def F210f (g : prodL L210f) (K : Kn) : Prop :=
 Room ((strB g.1).length) 1 (
 K (.tu [.int .i64 (g.1.size : Int), .cst .nilIface]) [some (.cells [.pt 0 0, .oa .u8 1 0]), some (.arr 0 .u8 (strB g.1))])
theorem F210f_eq (g : prodL L210f) (K X : Kn) : F210f g K = dfun D (gamX [(229, rw229f)] []) (isRaw [(229, rw229f)]) H210f J210f 19 [.tmp 4, .tmp 5] (codeOf Tryz.f210) (argsT S210f L210f g) (storeT S210f O210f L210f g) (settleD (storeT S210f O210f L210f g).length 0 K) X 0 := by kernel_rfl
theorem F210f_ok (g : prodL L210f) (K X : Kn) (h : F210f g K) : FCalls Tryz.prog 210 (argsT S210f L210f g) (storeT S210f O210f L210f g) K X 0 :=
 FCalls.settleD (dfun_sound (Γ := gamX [(229, rw229f)] []) (mu := isRaw [(229, rw229f)]) (H := H210f) (J := J210f) D_ok (gamX_ok (rs := [(229, rw229f)]) (l := []) (by intro p hp; simp only [List.mem_cons, List.not_mem_nil, or_false] at hp; subst hp; exact rw229f_ok) (fun p hp => by cases hp)) gamX_det rfl Tryz.func210 (c := codeOf Tryz.f210) rfl Tryz.ntmps210 (rs := [.tmp 4, .tmp 5]) Tryz.results210 (by unfold enters; rw [Tryz.func210]; kernel_rfl) (Nat.le_of_ble_eq_true (by kernel_rfl)) (X := X) (c0 := 0) (Eq.mp (F210f_eq g K X) h))
def rw210f : Raw := ⟨S210f, O210f, L210f, 0, fun g K _ => F210f g K⟩
theorem rw210f_ok : rw210f.Ok Tryz.prog 210 := fun g K X h => F210f_ok g K X h
def H211f : List (Nat × Hint) := []
def J211f : List (Nat × Hint) := []
abbrev S211f : List Sh := [.pt 0 0, .leaf]
abbrev L211f : List Lf := [.int .u8]
abbrev O211f : List ObSh := [.cells [.fp, .nil]]
def F211f (g : prodL L211f) (K : Kn) : Prop :=
 Room ([g.1].length) 1 (
 K (.cst .nilIface) [some (.cells [.pt 0 0, .oa .u8 1 0]), some (.arr 0 .u8 [g.1])])
theorem F211f_eq (g : prodL L211f) (K X : Kn) : F211f g K = dfun D (gamX [(229, rw229f)] []) (isRaw [(229, rw229f)]) H211f J211f 17 [.tmp 4] (codeOf Tryz.f211) (argsT S211f L211f g) (storeT S211f O211f L211f g) (settleD (storeT S211f O211f L211f g).length 0 K) X 0 := by kernel_rfl
theorem F211f_ok (g : prodL L211f) (K X : Kn) (h : F211f g K) : FCalls Tryz.prog 211 (argsT S211f L211f g) (storeT S211f O211f L211f g) K X 0 :=
 FCalls.settleD (dfun_sound (Γ := gamX [(229, rw229f)] []) (mu := isRaw [(229, rw229f)]) (H := H211f) (J := J211f) D_ok (gamX_ok (rs := [(229, rw229f)]) (l := []) (by intro p hp; simp only [List.mem_cons, List.not_mem_nil, or_false] at hp; subst hp; exact rw229f_ok) (fun p hp => by cases hp)) gamX_det rfl Tryz.func211 (c := codeOf Tryz.f211) rfl Tryz.ntmps211 (rs := [.tmp 4]) Tryz.results211 (by unfold enters; rw [Tryz.func211]; kernel_rfl) (Nat.le_of_ble_eq_true (by kernel_rfl)) (X := X) (c0 := 0) (Eq.mp (F211f_eq g K X) h))
def rw211f : Raw := ⟨S211f, O211f, L211f, 0, fun g K _ => F211f g K⟩
theorem rw211f_ok : rw211f.Ok Tryz.prog 211 := fun g K X h => F211f_ok g K X h
end Go.Proofs.YtbglndogddddoaaGreatDoor
namespace Go.Proofs.YtbglndogddddoaaGreatDoor
open Go.RowKit
attribute [local irreducible] dfun dround
def H171f : List (Nat × Hint) := [(7, ⟨[((0, [1]), none)], [(0, .pt 0 0), (24, .leaf), (25, .leaf), (26, .leaf)], [.cells [.pt 0 0, .oa .u8 1], .arr .u8], [.sl .sexp, .int .i64, .int .i64, .sl .u8]⟩)]
def J171f : List (Nat × Hint) := []
abbrev S171f : List Sh := [.pt 0 0, .ag [.leaf, .leaf, .leaf]]
abbrev L171f : List Lf := [.bool, .str, .sl .sexp]
abbrev O171f : List ObSh := [.cells [.fp, .nil]]
def F171f_B6 (K : Kn) (W6 : prodL [.sl .sexp, .int .i64, .int .i64, .sl .u8] -> Prop) (t_5 : List Sx) (t2_5 t3_5 : Int) (w_5 : List Int) : Prop :=
 bif decide (t3_5 < t2_5) then (
  At t_5 t3_5 fun u7 =>
 encPre (u7.isList, u7.atom, u7.list, w_5, ()) /\
 W6 (t_5, t2_5, IntKind.i64.wrap (t3_5 + 1), (w_5 ++ encI ⟨u7.isList, u7.atom, u7.list⟩), ()))
 else (
  let g8 : prodL [.int .u8, .sl .u8] := (41, w_5, ());
 Room (g8.2.1.length + [g8.1].length) 1 (
 K (.tu []) [some (.cells [.pt 0 0, .oa .u8 1 0]), some (.arr 0 .u8 (g8.2.1 ++ [g8.1]))]))
def F171f_L6 (K : Kn) (g : prodL [.sl .sexp, .int .i64, .int .i64, .sl .u8]) : Prop :=
 LoopW (γ := prodL [.sl .sexp, .int .i64, .int .i64, .sl .u8]) (fun V y => F171f_B6 K V y.1 y.2.1 y.2.2.1 y.2.2.2.1) g
def F171f (g : prodL L171f) (K : Kn) : Prop :=
 bif !g.1 then (
  sp209.pre ((g.2.1.size : Int), ()) /\
  let g1 : prodL [.str] := ((decB (g.2.1.size : Int)), ());
  Room ((strB g1.1).length) 1 (
  let g2 : prodL [.int .u8, .sl .u8] := (58, strB g1.1, ());
  Room (g2.2.1.length + [g2.1].length) 1 (
  let g3 : prodL [.str, .sl .u8] := (g.2.1, g2.2.1 ++ [g2.1], ());
  Room (g3.2.1.length + (strB g3.1).length) 1 (
  K (.tu []) [some (.cells [.pt 0 0, .oa .u8 1 0]), some (.arr 0 .u8 (g3.2.1 ++ (strB g3.1)))]))))
 else (
  let g4 : prodL [.int .u8] := (40, ());
 Room ([g4.1].length) 1 (
 F171f_L6 K (g.2.2.1, (g.2.2.1.length : Int), 0, [g4.1], ())))
theorem F171f_eq (g : prodL L171f) (K X : Kn) : F171f g K = dfun D (gamX [(171, rw171), (210, rw210), (210, rw210f), (211, rw211), (211, rw211f)] [(209, true, sp209)]) (isRaw [(171, rw171), (210, rw210), (210, rw210f), (211, rw211), (211, rw211f)]) H171f J171f 36 [] (codeOf Tryz.f171) (argsT S171f L171f g) (storeT S171f O171f L171f g) (settleD (storeT S171f O171f L171f g).length 0 K) X 0 := by kernel_rfl
theorem F171f_ok (g : prodL L171f) (K X : Kn) (h : F171f g K) : FCalls Tryz.prog 171 (argsT S171f L171f g) (storeT S171f O171f L171f g) K X 0 :=
 FCalls.settleD (dfun_sound (Γ := gamX [(171, rw171), (210, rw210), (210, rw210f), (211, rw211), (211, rw211f)] [(209, true, sp209)]) (mu := isRaw [(171, rw171), (210, rw210), (210, rw210f), (211, rw211), (211, rw211f)]) (H := H171f) (J := J171f) D_ok (gamX_ok (rs := [(171, rw171), (210, rw210), (210, rw210f), (211, rw211), (211, rw211f)]) (l := [(209, true, sp209)]) (by intro p hp; simp only [List.mem_cons, List.not_mem_nil, or_false] at hp; rcases hp with rfl | rfl | rfl | rfl | rfl <;> first | exact rw171_ok | exact rw210_ok | exact rw210f_ok | exact rw211_ok | exact rw211f_ok) (by intro p hp; simp only [List.mem_cons, List.not_mem_nil, or_false] at hp; subst hp; exact sp209_ok)) gamX_det rfl Tryz.func171 (c := codeOf Tryz.f171) rfl Tryz.ntmps171 (rs := []) Tryz.results171 (by unfold enters; rw [Tryz.func171]; kernel_rfl) (Nat.le_of_ble_eq_true (by kernel_rfl)) (X := X) (c0 := 0) (Eq.mp (F171f_eq g K X) h))
end Go.Proofs.YtbglndogddddoaaGreatDoor
namespace Go.Proofs.YtbglndogddddoaaGreatDoor
open Go.RowKit
def encPf (g : prodL [.bool, .str, .sl .sexp]) : Prop := encP ⟨g.1, g.2.1, g.2.2.1⟩ []
theorem F171f_is {b : Bool} {a : ByteArray} {l : List Sx} {K : Kn} (hp : encP ⟨b, a, l⟩ []) (h : K (.tu []) [some (.cells [.pt 0 0, .oa .u8 1 0]), some (.arr 0 .u8 (encI ⟨b, a, l⟩))]) : F171f (b, a, l, ()) K := by
 obtain ⟨hk, hz⟩ := hp
 obtain ⟨hs, hsz, hbl, _⟩ := small hk
 have hl := lim_eq
 unfold F171f
 simp only [bkS, List.length_nil] at hz
 dsimp only [Lf.ty, prodL] at h ⊢
 cases b
 . rw [encI_atom] at h
   have hn : intP (a.size : Int) := (⟨by omega, by omega⟩ : -9223372036854775808 <= (a.size : Int) /\ (a.size : Int) <= 9223372036854775807)
   have hd := decB_size hn
   simp only [Bool.not_false, cond_true]
   refine ⟨hn, ?_, ?_, ?_, ?_⟩
   . rw [strB_len]; omega
   . simp only [strB_len, List.length_cons, List.length_nil]; omega
   . simp only [List.length_append, strB_len, List.length_cons, List.length_nil]; omega
   . rw [show ((strB (decB (a.size : Int))) ++ [58]) ++ strB a = (strB (decB (a.size : Int)) ++ (58 :: strB a)) by simp]
     exact h
 . rw [encI_list] at h
   simp only [Bool.not_true, cond_false]
   refine ⟨by simp only [List.length_cons, List.length_nil]; omega, ?_⟩
   unfold F171f_L6
   refine LoopW.fold l (fun n (cs : List Int) => (l, (l.length : Int), (n : Int), cs, ())) (fun r _ cs => K (.tu []) [some (.cells [.pt 0 0, .oa .u8 1 0]), some (.arr 0 .u8 (cs ++ (encsI r ++ [41])))] /\ cs.length + 22 * bkSs r <= 70368744177664) (a0 := [40]) rfl ⟨?_, by simp only [List.length_cons, List.length_nil]; omega⟩ (fun cs hp W => ?_) (fun n hn r cs hr hp W hW => ?_)
   . exact h
   . obtain ⟨p1, p2⟩ := hp
     unfold F171f_B6
     rw [bif_dec, if_neg (by dsimp only; omega)]
     simp only [bkSs] at p2
     exact ⟨by simp only [List.length_cons, List.length_nil]; omega, p1⟩
   . obtain ⟨p1, p2⟩ := hp
     unfold F171f_B6
     rw [bif_dec, if_pos (by dsimp only; omega)]
     have hx : bkS l[n] <= bkSs l := mem_bk (List.getElem_mem hn)
     have he := encI_len (x := l[n]) (by omega)
     simp only [bkSs] at p2
     refine At_of hn ⟨(by show encP ⟨l[n].isList, l[n].atom, l[n].list⟩ cs; rw [Sx.eta]; exact ⟨by omega, by omega⟩), ?_⟩
     rw [Sx.eta, wrapS hn hs]
     refine hW (cs ++ encI l[n]) ⟨?_, ?_⟩
     . have e : encsI (l[n] :: r) = encI l[n] ++ encsI r := by unfold encsI encI; simp [encLs]
       rw [e] at p1
       rw [List.append_assoc, <- List.append_assoc (encI l[n])]
       exact p1
     . rw [List.length_append]; omega
def rw171f : Raw := ⟨S171f, O171f, L171f, 0, fun g K _ => encPf g /\ K (.tu []) [some (.cells [.pt 0 0, .oa .u8 1 0]), some (.arr 0 .u8 (encI ⟨g.1, g.2.1, g.2.2.1⟩))]⟩
theorem rw171f_ok : rw171f.Ok Tryz.prog 171 := fun g K X h => F171f_ok g K X (F171f_is h.1 h.2)
end Go.Proofs.YtbglndogddddoaaGreatDoor
namespace Go.Proofs.YtbglndogddddoaaGreatDoor
open Go.RowKit
set_option maxHeartbeats 1000000 in
set_option maxRecDepth 100000 in
theorem string39 (b g cap : Nat) (cur : Array Value) (fr : Nat × Nat) (l : List UInt8) (w : World) (c0 : w.cell? ⟨b, 1, none⟩ = some (.slice (some ⟨g, 0, none⟩) l.length cap)) (hg : w.heap[g]? = some (.cells cur 5 fr)) (hl0 : l.length ≠ 0) (hnc : l.length <= cap) (hcm : cap <= maxLen) (hcs : cap <= cur.size)
  (hat : ∀ (j : Nat) (x : UInt8), l[j]? = some x -> cur[j]? = some (Value.int .u8 x.toNat)) :
  Calls Tryz.prog 172 #[.pointer (some ⟨b, 0, none⟩)] w fun e w' => e = .returned (.string ⟨l.toArray⟩) /\ w' = w.drew.freeze ⟨g, 0, none⟩ l.length := by
 have c1 : w.drew.cell? ⟨b, 1, none⟩ = some (.slice (some ⟨g, 0, none⟩) l.length cap) := c0
 have hg' : w.drew.heap[g]? = some (.cells cur 5 fr) := hg
 have hSD : (Builtin.unsafeSliceData_ #[69] 222 #[.slice (some ⟨g, 0, none⟩) l.length cap]).run Tryz.prog w.drew = .ok (.pointer (some ⟨g, 0, none⟩)) w.drew :=
  Lib.run_unsafeSliceData_row _ _ _ _ _ _ (by omega)
 have hUS : (Builtin.unsafeString_ #[222, 3] 9 #[.pointer (some ⟨g, 0, none⟩), .int .i64 l.length]).run Tryz.prog w.drew = .ok (.string ⟨l.toArray⟩) (w.drew.freeze ⟨g, 0, none⟩ l.length) := by
  refine Lib.run_unsafeString_row w.drew 222 3 9 5 Tryz.underlying222 (by kernel_rfl) g cur.size (by simp [World.shape?, hg']) l (fun e => hl0 (by rw [e]; rfl)) (by omega) (by unfold maxLen at hcm; omega) ?_
  intro j x hx
  have := hat j x hx
  unfold Addr.add
  by_cases hj : j = 0
  . subst hj; simp [World.cell?, hg', this]
  . simp [hj, World.cell?, hg', this]
 go_enter Tryz.func172, Tryz.ntmps172
 go_wp2
 go_region
 all_goals (go_wp2; go_ret; exact ⟨rfl, rfl⟩)
end Go.Proofs.YtbglndogddddoaaGreatDoor
namespace Go.Proofs.YtbglndogddddoaaGreatDoor
open Go.RowKit
theorem freeze_else {w : World} {a : Addr} {n b : Nat} (h : b ≠ a.block) : (w.freeze a n).heap[b]? = w.heap[b]? := by
 unfold World.freeze
 split
 . rfl
 . simp [Array.getElem?_modify, Ne.symm h]
theorem freeze_size {w : World} {a : Addr} {n : Nat} : (w.freeze a n).heap.size = w.heap.size := by
 unfold World.freeze
 split
 . rfl
 . simp
theorem freeze_os {w : World} {a : Addr} {n : Nat} : (w.freeze a n).os = w.os := by
 unfold World.freeze; split <;> rfl
theorem freeze_tape {w : World} {a : Addr} {n : Nat} : (w.freeze a n).tape = w.tape := by
 unfold World.freeze; split <;> rfl
theorem freeze_out {w : World} {a : Addr} {n : Nat} : (w.freeze a n).output = w.output := by
 unfold World.freeze; split <;> rfl
theorem u8_back {n : Int} (h1 : 0 <= n) (h2 : n < 256) : n = ((UInt8.ofNat n.toNat).toNat : Int) := by
 rw [UInt8.toNat_ofNat', Nat.mod_eq_of_lt (by omega)]
 omega
def strPre (g : prodL [.sl .u8]) : Prop := g.1 ≠ [] /\ ∀ n ∈ g.1, 0 <= n /\ n < 256
def rw172 : Raw := ⟨[.pt 0 0], bdrO, [.sl .u8], 0, fun g K _ => strPre g /\ K (.str (bStr g.1)) [some (.cells [.pt 0 0, .oa .u8 1 0]), some (.arr 1 .u8 [])]⟩
theorem rw172_ok : rw172.Ok Tryz.prog 172 := by
 rintro ⟨l, ⟨⟩⟩ K X h g w hg
 obtain ⟨⟨hne, hb⟩, h⟩ := h
 have hne : l ≠ [] := hne
 have hb : ∀ n ∈ l, 0 <= n /\ n < 256 := hb
 have h : K (.str (bStr l)) [some (.cells [.pt 0 0, .oa .u8 1 0]), some (.arr 1 .u8 [])] := h
 have hg : Good g [some (.cells [.pt 0 0, .oa .u8 1 0]), some (.arr 0 .u8 l)] w := hg
 refine Atc.of (by kernel_rfl) fun args hr => ?_
 obtain ⟨x, rfl, hx⟩ := rl_one hr
 obtain ⟨oi, o1, _, o3⟩ := hg.obj 0 _ rfl
 obtain ⟨oa, a1, a2, a3, a4, a5⟩ := hg.arr (k := 1) (ver := 0) (e := .u8) (l := l) rfl
 have o1 : g.ob 0 0 = some oi := o1
 have hx : R g (.pt 0 0) x := hx
 have hl0 : 0 < l.length := List.length_pos_iff.2 hne
 obtain ⟨_, cur, E, fr, q1, q2, q3, q4, q5⟩ := a5 (by omega)
 have q5 : (E == 5) = true := q5
 obtain rfl : E = 5 := by simpa using q5
 cases hx with
 | pt _ _ oi' h1 =>
  rw [o1] at h1
  simp only [Option.some.injEq] at h1
  subst h1
  rcases o3 with o3 | ⟨_, blk, E, fr', p1, _, p3, _⟩
  . cases o3.1
  have p1 : w.heap[oi.b]? = some (.cells blk E fr') := p1
  obtain ⟨z, z1, _, z3⟩ := p3.at_ 1 _ rfl
  have z3 : R g (.oa .u8 1 0) z := z3
  have hz : z = .slice (some ⟨oa.b, 0, none⟩) l.length oa.cap := by
   cases z3 with
   | oa _ _ _ oi'' A r1 r2 r3 r4 =>
    rw [a1] at r1
    simp only [Option.some.injEq] at r1
    subst r1
    rw [r2 (by omega), a2]
  subst hz
  have hlen : (l.map fun n => UInt8.ofNat n.toNat).length = l.length := List.length_map ..
  refine (string39 oi.b oa.b oa.cap cur fr (l.map fun n => UInt8.ofNat n.toNat) w (by rw [hlen]; simp [World.cell?, p1, z1]) q1 (by rw [hlen]; omega) (by rw [hlen]; omega) a4 (by rw [show sz .u8 = 1 from rfl, Nat.mul_one] at q4; exact q4) (fun j x hx => ?_)).mono ?_
  . simp only [List.getElem?_map, Option.map_eq_some_iff] at hx
    obtain ⟨n, hn, rfl⟩ := hx
    obtain ⟨y, y1, _, y3⟩ := q3.at_ j (.int .u8 n) (by
     have := encs_get (e := .u8) (j := 0) hn (by decide)
     simpa [sz, enc] using this)
    cases y3
    obtain ⟨b1, b2⟩ := hb n (List.mem_of_getElem? hn)
    rw [y1]
    exact congrArg (fun m => some (Value.int .u8 m)) (u8_back b1 b2)
  . rintro e w' ⟨rfl, rfl⟩
    have hnew : g.ob 1 1 = none := by
     cases hh : g.ob 1 1 with
     | none => rfl
     | some oi => have := old_ver (o' := .arr 0 .u8 l) hg rfl hh; simp [obVer] at this
    obtain ⟨k1, k2, k3⟩ := good_put (st' := [some (.cells [.pt 0 0, .oa .u8 1 0]), some (.arr 1 .u8 [])]) (k := 1) (v := 1) (o' := .arr 1 .u8 []) (oi := ⟨0, 0, 0⟩) (w' := w.drew.freeze ⟨oa.b, 0, none⟩ (l.map fun n => UInt8.ofNat n.toNat).length) hg (fun i => by rcases i with _ | _ | i <;> simp) (Nat.le_of_ble_eq_true rfl) (Nat.le_of_ble_eq_true rfl) rfl (.inl hnew)
     (fun u oi' hu => by have := old_ver (o' := .arr 0 .u8 l) hg rfl hu; simp [obVer] at this; omega) ⟨rfl, Nat.le_refl _, Nat.zero_le _⟩ (fun h => absurd ⟨rfl, rfl⟩ h) freeze_os freeze_tape freeze_out (by rw [freeze_size]; exact Nat.le_refl _)
     (fun b _ hb => freeze_else fun e => hb (.arr 0 .u8 l) rfl (by rw [blk_of a1 (by simp [isArr]; omega)]; exact congrArg some e.symm)) (fun h => absurd ⟨rfl, rfl⟩ h) (fun o ho => by
      simp only [List.getElem?_cons_succ, List.getElem?_cons_zero, Option.some.injEq] at ho; subst ho; exact ⟨_, _, rfl⟩)
    exact ⟨_, _, k1, k2 _, _, h, .str _⟩
end Go.Proofs.YtbglndogddddoaaGreatDoor
namespace Go.Proofs.YtbglndogddddoaaGreatDoor
open Go.RowKit
attribute [local irreducible] dfun dround
def H122 : List (Nat × Hint) := []
def J122 : List (Nat × Hint) := []
abbrev S122 : List Sh := [.ag [.leaf, .leaf, .leaf]]
abbrev L122 : List Lf := [.bool, .str, .sl .sexp]
def F122 (g : prodL L122) (K : Kn) : Prop :=
 sp151.pre (g.1, g.2.1, g.2.2.1, ()) /\
 bif !decide (ckG ⟨g.1, g.2.1, g.2.2.1⟩ = 0) then (
  K (.tu [.str (⟨#[]⟩ : ByteArray), .int .i64 (ckG ⟨g.1, g.2.1, g.2.2.1⟩)]) [])
 else (
  encPf (g.1, g.2.1, g.2.2.1, ()) /\
 strPre ((encI ⟨g.1, g.2.1, g.2.2.1⟩), ()) /\
 K (.tu [.str (bStr (encI ⟨g.1, g.2.1, g.2.2.1⟩)), .int .i64 0]) [])
theorem F122_eq (g : prodL L122) (K X : Kn) : F122 g K = dfun D (gamX [(171, rw171f), (172, rw172)] [(151, true, sp151)]) (isRaw [(171, rw171f), (172, rw172)]) H122 J122 14 [.tmp 2, .tmp 3] (codeOf Tryz.f122) (argsT S122 L122 g) [] (settle0 K) X := by kernel_rfl
theorem F122_ok (g : prodL L122) (K X : Kn) (h : F122 g K) : FCalls Tryz.prog 122 (argsT S122 L122 g) [] K X :=
 FCalls.settle0 (dfun_sound (Γ := gamX [(171, rw171f), (172, rw172)] [(151, true, sp151)]) (mu := isRaw [(171, rw171f), (172, rw172)]) (H := H122) (J := J122) D_ok (gamX_ok (rs := [(171, rw171f), (172, rw172)]) (l := [(151, true, sp151)]) (by intro p hp; simp only [List.mem_cons, List.not_mem_nil, or_false] at hp; rcases hp with rfl | rfl <;> first | exact rw171f_ok | exact rw172_ok) (by intro p hp; simp only [List.mem_cons, List.not_mem_nil, or_false] at hp; subst hp; exact sp151_ok)) gamX_det rfl Tryz.func122 (c := codeOf Tryz.f122) rfl Tryz.ntmps122 Tryz.results122 (by unfold enters; rw [Tryz.func122]; kernel_rfl) (Nat.le_of_ble_eq_true (by kernel_rfl)) (c0 := 0) (Eq.mp (F122_eq g K X) h))
end Go.Proofs.YtbglndogddddoaaGreatDoor
namespace Go.Proofs.YtbglndogddddoaaGreatDoor
open Go.RowKit
theorem bStr_encI (x : Sx) : bStr (encI x) = encB x := by
 have h : bl (bStr (encI x)) = bl (encB x) := by
  rw [encB_bl]
  unfold bStr encI bl
  simp [Function.comp_def]
 exact ByteArray.ext (Array.toList_inj.1 h)
theorem encI_ne (x : Sx) : encI x ≠ [] := by
 obtain ⟨b, a, l⟩ := x
 cases b
 . rw [encI_atom]; simp
 . rw [encI_list]; simp
theorem encI_byte (x : Sx) : ∀ n ∈ encI x, 0 <= n /\ n < 256 := by
 intro n hn
 unfold encI at hn
 obtain ⟨b, _, rfl⟩ := List.mem_map.1 hn
 have := b.toNat_lt
 omega
theorem encode_ok : EncodeOk :=
 ⟨by
  rintro ⟨b, a, l, ⟨⟩⟩ K X q1 h
  have h : K (.tu [.str (enT ⟨b, a, l⟩).1, .int .i64 (enT ⟨b, a, l⟩).2]) [] := h
  have q1 : bkS ⟨b, a, l⟩ <= lim := q1
  refine F122_ok (b, a, l, ()) K X ⟨q1, ?_⟩
  unfold enT at h
  dsimp only
  rw [bif_ndec]
  by_cases h0 : ckG ⟨b, a, l⟩ = 0
  . rw [if_pos h0] at h
    rw [if_pos h0]
    refine ⟨⟨q1, ?_⟩, ⟨encI_ne _, encI_byte _⟩, ?_⟩
    . have := lim_eq; simp only [List.length_nil]; omega
    . show K (.tu [.str (bStr (encI ⟨b, a, l⟩)), .int .i64 0]) []
      rw [bStr_encI]; exact h
  . rw [if_neg h0] at h
    rw [if_neg h0]
    exact h, fun _ _ _ => rfl, fun _ => rfl, fun _ _ => ⟨rfl, rfl⟩⟩
end Go.Proofs.YtbglndogddddoaaGreatDoor
namespace Go.Proofs.YtbglndogddddoaaGreatDoor
open Go.RowKit Go.Lib
def digL (d : Dig) : List Int := [d.b0, d.b1, d.b2, d.b3, d.b4, d.b5, d.b6, d.b7, d.b8, d.b9, d.b10, d.b11, d.b12, d.b13, d.b14, d.b15, d.b16, d.b17, d.b18, d.b19, d.b20, d.b21, d.b22, d.b23, d.b24, d.b25, d.b26, d.b27, d.b28, d.b29, d.b30, d.b31]
def dstr (d : Dig) : ByteArray := bStr (digL d)
def digEq (a b : Dig) : Bool := decide (a.b0 = b.b0) && (decide (a.b1 = b.b1) && (decide (a.b2 = b.b2) && (decide (a.b3 = b.b3) && (decide (a.b4 = b.b4) && (decide (a.b5 = b.b5) && (decide (a.b6 = b.b6) && (decide (a.b7 = b.b7) && (decide (a.b8 = b.b8) && (decide (a.b9 = b.b9) && (decide (a.b10 = b.b10) && (decide (a.b11 = b.b11) && (decide (a.b12 = b.b12) && (decide (a.b13 = b.b13) && (decide (a.b14 = b.b14) && (decide (a.b15 = b.b15) && (decide (a.b16 = b.b16) && (decide (a.b17 = b.b17) && (decide (a.b18 = b.b18) && (decide (a.b19 = b.b19) && (decide (a.b20 = b.b20) && (decide (a.b21 = b.b21) && (decide (a.b22 = b.b22) && (decide (a.b23 = b.b23) && (decide (a.b24 = b.b24) && (decide (a.b25 = b.b25) && (decide (a.b26 = b.b26) && (decide (a.b27 = b.b27) && (decide (a.b28 = b.b28) && (decide (a.b29 = b.b29) && (decide (a.b30 = b.b30) && (decide (a.b31 = b.b31) && (true))))))))))))))))))))))))))))))))
def idEq (a b : Idn) : Bool := decide (a.patch.b0 = b.patch.b0) && (decide (a.patch.b1 = b.patch.b1) && (decide (a.patch.b2 = b.patch.b2) && (decide (a.patch.b3 = b.patch.b3) && (decide (a.patch.b4 = b.patch.b4) && (decide (a.patch.b5 = b.patch.b5) && (decide (a.patch.b6 = b.patch.b6) && (decide (a.patch.b7 = b.patch.b7) && (decide (a.patch.b8 = b.patch.b8) && (decide (a.patch.b9 = b.patch.b9) && (decide (a.patch.b10 = b.patch.b10) && (decide (a.patch.b11 = b.patch.b11) && (decide (a.patch.b12 = b.patch.b12) && (decide (a.patch.b13 = b.patch.b13) && (decide (a.patch.b14 = b.patch.b14) && (decide (a.patch.b15 = b.patch.b15) && (decide (a.patch.b16 = b.patch.b16) && (decide (a.patch.b17 = b.patch.b17) && (decide (a.patch.b18 = b.patch.b18) && (decide (a.patch.b19 = b.patch.b19) && (decide (a.patch.b20 = b.patch.b20) && (decide (a.patch.b21 = b.patch.b21) && (decide (a.patch.b22 = b.patch.b22) && (decide (a.patch.b23 = b.patch.b23) && (decide (a.patch.b24 = b.patch.b24) && (decide (a.patch.b25 = b.patch.b25) && (decide (a.patch.b26 = b.patch.b26) && (decide (a.patch.b27 = b.patch.b27) && (decide (a.patch.b28 = b.patch.b28) && (decide (a.patch.b29 = b.patch.b29) && (decide (a.patch.b30 = b.patch.b30) && (decide (a.patch.b31 = b.patch.b31) && (decide (a.n = b.n) && (true)))))))))))))))))))))))))))))))))
def dz : Dig := ⟨0, 0, 0, 0, 0, 0, 0, 0, 0, 0, 0, 0, 0, 0, 0, 0, 0, 0, 0, 0, 0, 0, 0, 0, 0, 0, 0, 0, 0, 0, 0, 0⟩
def iz : Idn := ⟨dz, 0⟩
def ownB (x : Idn) : Bool := digEq x.patch dz
def bs (l : List Int) : List UInt8 := l.map fun n => UInt8.ofNat n.toNat
def digC (a b : Dig) : Int := compareBytes (bs (digL a)) (bs (digL b))
def cmpN (a b : Int) : Int := bif decide (a < b) then -1 else bif decide (b < a) then 1 else 0
def idC (a b : Idn) : Int := bif !decide (digC a.patch b.patch = 0) then digC a.patch b.patch else cmpN a.n b.n
def idxI : List Int -> Int -> Int
 | [], _ => -1
 | a :: l, n => bif decide (n = a) then 0 else bif decide (idxI l n < 0) then -1 else idxI l n + 1
theorem idxI_ge : ∀ (l : List Int) (n : Int), -1 <= idxI l n
 | [], _ => Int.le_refl _
 | a :: l, n => by
  have := idxI_ge l n
  unfold idxI
  cases decide (n = a)
  . cases c : decide (idxI l n < 0)
    . have := of_decide_eq_false c; simp only [cond_false]; omega
    . simp
  . simp
def chrB (b : UInt8) : Bool := decide ((97 <= b.toNat /\ b.toNat <= 122) ∨ (65 <= b.toNat /\ b.toNat <= 90) ∨ (48 <= b.toNat /\ b.toNat <= 57) ∨ b.toNat = 46 ∨ b.toNat = 95 ∨ b.toNat = 45)
def restN (s : ByteArray) : Bool := bif !decide (s = (⟨#[]⟩ : ByteArray)) then (bif decide ((s.size : Int) <= 40) then (bif !decide (s = (⟨#[46]⟩ : ByteArray)) then !decide (s = (⟨#[46, 46]⟩ : ByteArray)) else false) else false) else false
def nameB (s : ByteArray) : Bool := s.data.toList.all chrB && restN s
def cleanB (s : ByteArray) (a b : Int) : Bool := s.data.toList.all fun x => !(decide ((x.toNat : Int) = a) || decide ((x.toNat : Int) = b))
def lineB (s : ByteArray) : Bool := bif decide ((s.size : Int) <= 1000) then cleanB s 10 0 else false
def atomX (s : ByteArray) : Sx := ⟨false, s, []⟩
def listX (l : List Sx) : Sx := ⟨true, ⟨#[]⟩, l⟩
def numX (n : Int) : Sx := (intB n).1
theorem digEq_eq (a b : Dig) : digEq a b = decide (a = b) := by
 have : decide (a = b) = decide (digL a = digL b) := by
  rw [decide_eq_decide]
  refine ⟨fun h => by rw [h], fun h => ?_⟩
  obtain ⟨a0, a1, a2, a3, a4, a5, a6, a7, a8, a9, a10, a11, a12, a13, a14, a15, a16, a17, a18, a19, a20, a21, a22, a23, a24, a25, a26, a27, a28, a29, a30, a31⟩ := a
  obtain ⟨b0, b1, b2, b3, b4, b5, b6, b7, b8, b9, b10, b11, b12, b13, b14, b15, b16, b17, b18, b19, b20, b21, b22, b23, b24, b25, b26, b27, b28, b29, b30, b31⟩ := b
  simp only [digL, List.cons.injEq, and_true] at h
  simpa only [Dig.mk.injEq] using h
 rw [this]
 simp only [digEq, digL, List.cons.injEq, and_true, Bool.and_true, Bool.decide_and]
theorem idEq_eq (a b : Idn) : idEq a b = decide (a = b) := by
 obtain ⟨a, n⟩ := a
 obtain ⟨b, m⟩ := b
 have h : idEq ⟨a, n⟩ ⟨b, m⟩ = (digEq a b && decide (n = m)) := by
  simp only [idEq, digEq, Bool.and_true, Bool.and_assoc]
 rw [h, digEq_eq, <- Bool.decide_and, decide_eq_decide, Idn.mk.injEq]
theorem bifT {α : Type} {K : α -> Prop} {c : Bool} {x y : α} {P Q : Prop} (h1 : K x -> P) (h2 : K y -> Q) (h : K (bif c then x else y)) : bif c then P else Q := by
 cases c
 . exact h2 h
 . exact h1 h
theorem LoopW.count {γ : Type} {body : (γ -> Prop) -> γ -> Prop} (N : Nat) (S : Nat -> γ) (P : Nat -> Prop) (h : ∀ n, n <= N -> P n -> ∀ W : γ -> Prop, (n < N -> P (n + 1) -> W (S (n + 1))) -> body W (S n)) (h0 : P 0) : LoopW body (S 0) := by
 have key : ∀ k n, n + k = N -> P n -> loopN body (k + 1) (S n) := by
  intro k
  induction k with
  | zero => intro n hn hp; exact h n (by omega) hp _ fun hlt => by omega
  | succ k ih => intro n hn hp; exact h n (by omega) hp _ fun hlt hp' => ih (n + 1) (by omega) hp'
 exact ⟨N + 1, key N 0 (by omega) h0⟩
theorem LoopW.countTo {γ : Type} {body : (γ -> Prop) -> γ -> Prop} {g : γ} (N : Nat) (S : Nat -> γ) (P : Nat -> Prop) (hg : g = S 0) (h : ∀ n, n <= N -> P n -> ∀ W : γ -> Prop, (n < N -> P (n + 1) -> W (S (n + 1))) -> body W (S n)) (h0 : P 0) : LoopW body g := by
 rw [hg]; exact LoopW.count N S P h h0
theorem take_snoc {α : Type} {l : List α} {n : Nat} (h : n < l.length) : l.take (n + 1) = l.take n ++ [l[n]] := by
 simp
theorem lt_true {n N : Nat} (h : n < N) : decide ((n : Int) < (N : Int)) = true := by simp; omega
theorem lt_false {N : Nat} : decide ((N : Int) < (N : Int)) = false := by simp
end Go.Proofs.YtbglndogddddoaaGreatDoor
namespace Go.Proofs.YtbglndogddddoaaGreatDoor
open Go.RowKit
theorem LoopW.all {γ : Type} {body : (γ -> Prop) -> γ -> Prop} {g : γ} (N : Nat) (S : Nat -> γ) (p : Nat -> Bool) (Q : Bool -> Prop) (hQ : Q (decide (∀ n, n < N -> p n = true))) (hg : g = S 0)
  (step : ∀ (W : γ -> Prop) (n : Nat), n < N -> (p n = true -> W (S (n + 1))) -> (p n = false -> Q false) -> body W (S n)) (last : Q true -> ∀ W : γ -> Prop, body W (S N)) : LoopW body g := by
 refine LoopW.countTo N S (fun n => ∀ i, i < n -> p i = true) hg (fun n hn hp W hW => ?_) fun i hi => by omega
 by_cases hlt : n < N
 . refine step W n hlt (fun h => hW hlt fun i hi => ?_) fun h => ?_
   . by_cases e : i = n
     . rw [e]; exact h
     . exact hp i (by omega)
   . have : decide (∀ n, n < N -> p n = true) = false := by
      rw [decide_eq_false_iff_not]
      intro ha
      have := ha n hlt
      rw [h] at this; cases this
     rwa [this] at hQ
 . have : n = N := by omega
   subst this
   have : decide (∀ i, i < n -> p i = true) = true := by rw [decide_eq_true_eq]; exact hp
   rw [this] at hQ
   exact last hQ W
theorem decB_one {n : Nat} (h : n < 10) : decB (n : Int) = ⟨#[UInt8.ofNat (48 + n)]⟩ := by
 unfold decB Lib.itoa
 rw [if_neg (by omega), show ((n : Int)).toNat = n by omega, Lib.decDigits_one h]
theorem dstr_size (d : Dig) : (dstr d).size = 32 := rfl
theorem bkS_atom (s : ByteArray) : bkS (atomX s) = s.size + 3 := by simp [atomX, bkS, bkSs]
theorem bkS_list (l : List Sx) : bkS (listX l) = bkSs l + 3 := by
 have : (⟨#[]⟩ : ByteArray).size = 0 := rfl
 simp only [listX, bkS, this]; omega
theorem itoa_len {n : Int} (h : intP n) : (decB n).size <= 21 := by
 obtain ⟨h1, h2⟩ := h
 show (Lib.itoa n).toArray.size <= 21
 rw [List.size_toArray]
 unfold Lib.itoa
 split
 . have := dec_len 19 n.natAbs (by omega)
   simp only [List.length_cons]; omega
 . have := dec_len 19 n.toNat (by omega)
   omega
theorem bkS_num {n : Int} (h : intP n) : bkS (numX n) <= 24 := by
 have := itoa_len h
 unfold numX intB
 split
 . simp only [sx0, bkS, bkSs]; exact Nat.le_of_ble_eq_true rfl
 . simp only [bkS, bkSs]; omega
theorem LoopW.map {α β γ : Type} {body : (γ -> Prop) -> γ -> Prop} {g : γ} (l : List α) (f : α -> β) (S : Int -> List β -> γ) (hr : l.length <= 4294967296) (hg : g = S 0 [])
  (step : ∀ (W : γ -> Prop) (n : Nat) (h : n < l.length) (out : List β), out.length = n -> W (S (IntKind.i64.wrap ((n : Int) + 1)) (out ++ [f l[n]])) -> body W (S n out))
  (last : ∀ W : γ -> Prop, body W (S l.length (l.map f))) : LoopW body g := by
 refine LoopW.countTo l.length (fun n => S n ((l.take n).map f)) (fun _ => True) (by simpa using hg) (fun n hn _ W hW => ?_) trivial
 by_cases hlt : n < l.length
 . refine step W n hlt _ (by simp; omega) ?_
   have := hW hlt trivial
   rw [wrapS hlt hr]
   rwa [take_snoc hlt, List.map_append] at this
 . have : n = l.length := by omega
   subst this
   simp only [List.take_length]
   exact last W
def spL (n : Nat) : Prop := n <= 4294967295
theorem getQ {α : Type} {a : List α} {n : Nat} (h : n < a.length) : a[n]? = some a[n] := List.getElem?_eq_getElem h
theorem w64 {n : Int} (h : 0 <= n /\ n <= 8589934592) : IntKind.i64.wrap n = n := wrap64 (by omega) (by omega)
theorem dec_allO {α : Type} {a : List α} (q : α -> Bool) : a.all q = decide (∀ n, n < a.length -> (a[n]?).all q = true) := by
 rw [Bool.eq_iff_iff, decide_eq_true_eq, List.all_eq_true]
 refine ⟨fun e n h => by rw [getQ h]; exact e _ (List.getElem_mem _), fun e x hx => ?_⟩
 obtain ⟨n, h, rfl⟩ := List.mem_iff_getElem.1 hx
 have := e n h
 rwa [getQ h] at this
theorem map_inj_on {α β : Type} {f : α -> β} : ∀ {l m : List α}, (∀ x ∈ l, ∀ y ∈ m, f x = f y -> x = y) -> l.map f = m.map f -> l = m
 | [], [], _, _ => rfl
 | [], _ :: _, _, h => by simp at h
 | _ :: _, [], _, h => by simp at h
 | x :: l, y :: m, hf, h => by
  simp only [List.map_cons, List.cons.injEq] at h
  rw [hf x (List.mem_cons_self ..) y (List.mem_cons_self ..) h.1, map_inj_on (fun x hx y hy => hf x (List.mem_cons_of_mem _ hx) y (List.mem_cons_of_mem _ hy)) h.2]
theorem bStr_inj {l m : List Int} (hl : ∀ x ∈ l, 0 <= x /\ x <= 255) (hm : ∀ x ∈ m, 0 <= x /\ x <= 255) (h : bStr l = bStr m) : l = m := by
 have h : (l.map fun n => UInt8.ofNat n.toNat).toArray = (m.map fun n => UInt8.ofNat n.toNat).toArray := congrArg ByteArray.data h
 have h : (l.map fun n => UInt8.ofNat n.toNat) = (m.map fun n => UInt8.ofNat n.toNat) := congrArg Array.toList h
 refine map_inj_on (fun x hx y hy e => ?_) h
 have := congrArg UInt8.toNat e
 have h1 := hl x hx
 have h2 := hm y hy
 rw [UInt8.toNat_ofNat', UInt8.toNat_ofNat'] at this
 omega
theorem u8_wf {n : Int} (h : IntKind.u8.min <= n /\ n <= IntKind.u8.max) : 0 <= n /\ n <= 255 := by
 simpa [IntKind.min, IntKind.max, IntKind.signed, IntKind.bits] using h
end Go.Proofs.YtbglndogddddoaaGreatDoor
namespace Go.Proofs.YtbglndogddddoaaGreatDoor
open Go.RowKit
attribute [local irreducible] dfun dround
set_option maxRecDepth 100000
def H47 : List (Nat × Hint) := []
def J47 : List (Nat × Hint) := []
abbrev S47 : List Sh := [.leaf]
abbrev L47 : List Lf := [.el .idk]
def F47 (g : prodL L47) (K : Kn) : Prop :=
 K (.bool (digEq g.1.patch dz)) []
theorem F47_eq (g : prodL L47) (K X : Kn) : F47 g K = dfun D (gamX [] []) (isRaw []) H47 J47 7 [.tmp 2] (codeOf Tryz.f47) (argsT S47 L47 g) [] (settle0 K) X := by kernel_rfl
theorem F47_ok (g : prodL L47) (K X : Kn) (h : F47 g K) : FCalls Tryz.prog 47 (argsT S47 L47 g) [] K X :=
 FCalls.settle0 (dfun_sound D_ok (gmX gm0) gamX_det rfl Tryz.func47 (c := codeOf Tryz.f47) rfl Tryz.ntmps47 Tryz.results47 (by unfold enters; rw [Tryz.func47]; kernel_rfl) (Nat.le_of_ble_eq_true (by kernel_rfl)) (c0 := 0) (Eq.mp (F47_eq g K X) h))
def sp47 : Sp := ⟨S47, L47, fun _ => True, fun g => .bool (ownB g.1), fun _ => none⟩
theorem sp47_ok : sp47.Ok Tryz.prog 47 true :=
 ⟨fun g K X hp h => F47_ok g K X h, fun _ _ _ => rfl, fun _ => rfl, by first | exact fun _ _ => ⟨rfl, rfl⟩ | (intro h; cases h)⟩
def H28 : List (Nat × Hint) := []
def J28 : List (Nat × Hint) := []
abbrev S28 : List Sh := []
abbrev L28 : List Lf := []
def F28 (g : prodL L28) (K : Kn) : Prop :=
 K (.ag (enc .idk (⟨dz, -1⟩ : Idn))) []
theorem F28_eq (g : prodL L28) (K X : Kn) : F28 g K = dfun D (gamX [] []) (isRaw []) H28 J28 2 [.cell 0 36] (codeOf Tryz.f28) (argsT S28 L28 g) [] (settle0 K) X := by kernel_rfl
theorem F28_ok (g : prodL L28) (K X : Kn) (h : F28 g K) : FCalls Tryz.prog 28 (argsT S28 L28 g) [] K X :=
 FCalls.settle0 (dfun_sound D_ok (gmX gm0) gamX_det rfl Tryz.func28 (c := codeOf Tryz.f28) rfl Tryz.ntmps28 Tryz.results28 (by unfold enters; rw [Tryz.func28]; kernel_rfl) (Nat.le_of_ble_eq_true (by kernel_rfl)) (c0 := 0) (Eq.mp (F28_eq g K X) h))
def sp28 : Sp := ⟨S28, L28, fun _ => True, fun g => .ag (enc .idk (⟨dz, -1⟩ : Idn)), fun _ => none⟩
theorem sp28_ok : sp28.Ok Tryz.prog 28 false :=
 ⟨fun g K X hp h => F28_ok g K X h, fun _ _ _ => rfl, fun _ => rfl, by first | exact fun _ _ => ⟨rfl, rfl⟩ | (intro h; cases h)⟩
def H119 : List (Nat × Hint) := []
def J119 : List (Nat × Hint) := []
abbrev S119 : List Sh := [.leaf]
abbrev L119 : List Lf := [.str]
def F119 (g : prodL L119) (K : Kn) : Prop :=
 K (.ag [.bool false, .str g.1, .nil]) []
theorem F119_eq (g : prodL L119) (K X : Kn) : F119 g K = dfun D (gamX [] []) (isRaw []) H119 J119 5 [.cell 2 85] (codeOf Tryz.f119) (argsT S119 L119 g) [] (settle0 K) X := by kernel_rfl
theorem F119_ok (g : prodL L119) (K X : Kn) (h : F119 g K) : FCalls Tryz.prog 119 (argsT S119 L119 g) [] K X :=
 FCalls.settle0 (dfun_sound D_ok (gmX gm0) gamX_det rfl Tryz.func119 (c := codeOf Tryz.f119) rfl Tryz.ntmps119 Tryz.results119 (by unfold enters; rw [Tryz.func119]; kernel_rfl) (Nat.le_of_ble_eq_true (by kernel_rfl)) (c0 := 0) (Eq.mp (F119_eq g K X) h))
def sp119 : Sp := ⟨S119, L119, fun _ => True, fun g => .ag [.bool false, .str g.1, .nil], fun _ => none⟩
theorem sp119_ok : sp119.Ok Tryz.prog 119 false :=
 ⟨fun g K X hp h => F119_ok g K X h, fun _ _ _ => rfl, fun _ => rfl, by first | exact fun _ _ => ⟨rfl, rfl⟩ | (intro h; cases h)⟩
def H118 : List (Nat × Hint) := []
def J118 : List (Nat × Hint) := []
abbrev S118 : List Sh := [.fsl .sexp]
abbrev L118 : List Lf := [.sl .sexp]
abbrev O118 : List ObSh := []
def F118 (g : prodL L118) (K : Kn) : Prop :=
 K (.ag [.bool true, .str (⟨#[]⟩ : ByteArray), .sl true .sexp g.1]) []
theorem F118_eq (g : prodL L118) (K X : Kn) : F118 g K = dfun D (gamX [] []) (isRaw []) H118 J118 5 [.cell 2 85] (codeOf Tryz.f118) (argsT S118 L118 g) (storeT S118 O118 L118 g) (settle0 K) X 0 := by kernel_rfl
theorem F118_ok (g : prodL L118) (K X : Kn) (h : F118 g K) : FCalls Tryz.prog 118 (argsT S118 L118 g) (storeT S118 O118 L118 g) K X 0 :=
 FCalls.settle0 (dfun_sound D_ok (gmX gm0) gamX_det rfl Tryz.func118 (c := codeOf Tryz.f118) rfl Tryz.ntmps118 Tryz.results118 (by unfold enters; rw [Tryz.func118]; kernel_rfl) (Nat.le_of_ble_eq_true (by kernel_rfl)) (c0 := 0) (Eq.mp (F118_eq g K X) h))
def rw118 : Raw := ⟨S118, O118, L118, 0, fun g K _ => F118 g K⟩
theorem rw118_ok : rw118.Ok Tryz.prog 118 := fun g K X h => F118_ok g K X h
def H83 : List (Nat × Hint) := []
def J83 : List (Nat × Hint) := []
abbrev S83 : List Sh := [.leaf]
abbrev L83 : List Lf := [.int .i64]
def F83 (g : prodL L83) (K : Kn) : Prop :=
 K (.bool (!decide (g.1 = g.1))) []
theorem F83_eq (g : prodL L83) (K X : Kn) : F83 g K = dfun D (gamX [] []) (isRaw []) H83 J83 6 [.tmp 2] (codeOf Tryz.f83) (argsT S83 L83 g) [] (settle0 K) X := by kernel_rfl
theorem F83_ok (g : prodL L83) (K X : Kn) (h : F83 g K) : FCalls Tryz.prog 83 (argsT S83 L83 g) [] K X :=
 FCalls.settle0 (dfun_sound D_ok (gmX gm0) gamX_det rfl Tryz.func83 (c := codeOf Tryz.f83) rfl Tryz.ntmps83 Tryz.results83 (by unfold enters; rw [Tryz.func83]; kernel_rfl) (Nat.le_of_ble_eq_true (by kernel_rfl)) (c0 := 0) (Eq.mp (F83_eq g K X) h))
def sp83 : Sp := ⟨S83, L83, fun _ => True, fun g => .bool (!decide (g.1 = g.1)), fun _ => none⟩
theorem sp83_ok : sp83.Ok Tryz.prog 83 false :=
 ⟨fun g K X hp h => F83_ok g K X h, fun _ _ _ => rfl, fun _ => rfl, by first | exact fun _ _ => ⟨rfl, rfl⟩ | (intro h; cases h)⟩
def H41 : List (Nat × Hint) := []
def J41 : List (Nat × Hint) := []
abbrev S41 : List Sh := [.leaf, .leaf]
abbrev L41 : List Lf := [.int .i64, .int .i64]
def F41 (g : prodL L41) (K : Kn) : Prop :=
 True /\
 True /\
 bif !decide (g.1 = g.1) then (
  bif !decide (g.2.1 = g.2.1) then (
   K (.int .i64 0) [])
  else (
   K (.int .i64 (-1)) []))
 else (
  bif !decide (g.2.1 = g.2.1) then (
  K (.int .i64 1) [])
 else (
  bif decide (g.1 < g.2.1) then (
  K (.int .i64 (-1)) [])
 else (
  bif decide (g.2.1 < g.1) then (
  K (.int .i64 1) [])
 else (
  K (.int .i64 0) []))))
theorem F41_eq (g : prodL L41) (K X : Kn) : F41 g K = dfun D (gamX [] [(83, false, sp83)]) (isRaw []) H41 J41 20 [.tmp 4] (codeOf Tryz.f41) (argsT S41 L41 g) [] (settle0 K) X := by kernel_rfl
theorem F41_ok (g : prodL L41) (K X : Kn) (h : F41 g K) : FCalls Tryz.prog 41 (argsT S41 L41 g) [] K X :=
 FCalls.settle0 (dfun_sound (Γ := gamX [] [(83, false, sp83)]) (mu := isRaw []) (H := H41) (J := J41) D_ok (gamX_ok (rs := []) (l := [(83, false, sp83)]) (fun p hp => by cases hp) (by intro p hp; simp only [List.mem_cons, List.not_mem_nil, or_false] at hp; subst hp; exact sp83_ok)) gamX_det rfl Tryz.func41 (c := codeOf Tryz.f41) rfl Tryz.ntmps41 Tryz.results41 (by unfold enters; rw [Tryz.func41]; kernel_rfl) (Nat.le_of_ble_eq_true (by kernel_rfl)) (c0 := 0) (Eq.mp (F41_eq g K X) h))
def H64 : List (Nat × Hint) := []
def J64 : List (Nat × Hint) := []
abbrev S64 : List Sh := []
abbrev L64 : List Lf := []
def F64 (g : prodL L64) (K : Kn) : Prop :=
 K (.ag [.int .u32 1779033703, .int .u32 3144134277, .int .u32 1013904242, .int .u32 2773480762, .int .u32 1359893119, .int .u32 2600822924, .int .u32 528734635, .int .u32 1541459225]) []
theorem F64_eq (g : prodL L64) (K X : Kn) : F64 g K = dfun D (gamX [] []) (isRaw []) H64 J64 2 [.cell 0 101] (codeOf Tryz.f64) (argsT S64 L64 g) [] (settle0 K) X := by kernel_rfl
theorem F64_ok (g : prodL L64) (K X : Kn) (h : F64 g K) : FCalls Tryz.prog 64 (argsT S64 L64 g) [] K X :=
 FCalls.settle0 (dfun_sound D_ok (gmX gm0) gamX_det rfl Tryz.func64 (c := codeOf Tryz.f64) rfl Tryz.ntmps64 Tryz.results64 (by unfold enters; rw [Tryz.func64]; kernel_rfl) (Nat.le_of_ble_eq_true (by kernel_rfl)) (c0 := 0) (Eq.mp (F64_eq g K X) h))
def sp64 : Sp := ⟨S64, L64, fun _ => True, fun g => .ag [.int .u32 1779033703, .int .u32 3144134277, .int .u32 1013904242, .int .u32 2773480762, .int .u32 1359893119, .int .u32 2600822924, .int .u32 528734635, .int .u32 1541459225], fun _ => none⟩
theorem sp64_ok : sp64.Ok Tryz.prog 64 false :=
 ⟨fun g K X hp h => F64_ok g K X h, fun _ _ _ => rfl, fun _ => rfl, by first | exact fun _ _ => ⟨rfl, rfl⟩ | (intro h; cases h)⟩
def H115 : List (Nat × Hint) := [(2, ⟨[], [(0, .leaf), (6, .leaf), (7, .leaf)], [], [.str, .int .i64, .int .i64]⟩)]
def J115 : List (Nat × Hint) := [(6, ⟨[], [(0, .leaf), (6, .leaf), (7, .leaf), (46, .leaf)], [], [.str, .int .i64, .int .i64, .bool]⟩)]
abbrev S115 : List Sh := [.leaf]
abbrev L115 : List Lf := [.str]
def F115_J5 (K : Kn) (W2 : prodL [.str, .int .i64, .int .i64] -> Prop) (s_4 : ByteArray) (t_4 t2_4 : Int) (t3_4 : Bool) : Prop :=
 bif t3_4 then (
  K (.bool false) [])
 else (
  W2 (s_4, t_4, IntKind.i64.wrap (t2_4 + 1), ()))
def F115_B2 (K : Kn) (W2 : prodL [.str, .int .i64, .int .i64] -> Prop) (s_1 : ByteArray) (t_1 t2_1 : Int) : Prop :=
 bif decide (t2_1 < t_1) then (
  StrAt s_1 t2_1 fun b3 =>
 bif decide (b3 < 97) then (
  bif decide (b3 < 65) then (
   bif decide (b3 < 48) then (
    bif !decide (b3 = 46) then (
     bif !decide (b3 = 95) then (
      F115_J5 K W2 s_1 t_1 t2_1 (!decide (b3 = 45)))
     else (
      F115_J5 K W2 s_1 t_1 t2_1 false))
    else (
     F115_J5 K W2 s_1 t_1 t2_1 false))
   else (
    bif decide (57 < b3) then (
     bif !decide (b3 = 46) then (
      bif !decide (b3 = 95) then (
       F115_J5 K W2 s_1 t_1 t2_1 (!decide (b3 = 45)))
      else (
       F115_J5 K W2 s_1 t_1 t2_1 false))
     else (
      F115_J5 K W2 s_1 t_1 t2_1 false))
    else (
     F115_J5 K W2 s_1 t_1 t2_1 false)))
  else (
   bif decide (90 < b3) then (
    bif decide (b3 < 48) then (
     bif !decide (b3 = 46) then (
      bif !decide (b3 = 95) then (
       F115_J5 K W2 s_1 t_1 t2_1 (!decide (b3 = 45)))
      else (
       F115_J5 K W2 s_1 t_1 t2_1 false))
     else (
      F115_J5 K W2 s_1 t_1 t2_1 false))
    else (
     bif decide (57 < b3) then (
      bif !decide (b3 = 46) then (
       bif !decide (b3 = 95) then (
        F115_J5 K W2 s_1 t_1 t2_1 (!decide (b3 = 45)))
       else (
        F115_J5 K W2 s_1 t_1 t2_1 false))
      else (
       F115_J5 K W2 s_1 t_1 t2_1 false))
     else (
      F115_J5 K W2 s_1 t_1 t2_1 false)))
   else (
    F115_J5 K W2 s_1 t_1 t2_1 false)))
 else (
  bif decide (122 < b3) then (
   bif decide (b3 < 65) then (
    bif decide (b3 < 48) then (
     bif !decide (b3 = 46) then (
      bif !decide (b3 = 95) then (
       F115_J5 K W2 s_1 t_1 t2_1 (!decide (b3 = 45)))
      else (
       F115_J5 K W2 s_1 t_1 t2_1 false))
     else (
      F115_J5 K W2 s_1 t_1 t2_1 false))
    else (
     bif decide (57 < b3) then (
      bif !decide (b3 = 46) then (
       bif !decide (b3 = 95) then (
        F115_J5 K W2 s_1 t_1 t2_1 (!decide (b3 = 45)))
       else (
        F115_J5 K W2 s_1 t_1 t2_1 false))
      else (
       F115_J5 K W2 s_1 t_1 t2_1 false))
     else (
      F115_J5 K W2 s_1 t_1 t2_1 false)))
   else (
    bif decide (90 < b3) then (
     bif decide (b3 < 48) then (
      bif !decide (b3 = 46) then (
       bif !decide (b3 = 95) then (
        F115_J5 K W2 s_1 t_1 t2_1 (!decide (b3 = 45)))
       else (
        F115_J5 K W2 s_1 t_1 t2_1 false))
      else (
       F115_J5 K W2 s_1 t_1 t2_1 false))
     else (
      bif decide (57 < b3) then (
       bif !decide (b3 = 46) then (
        bif !decide (b3 = 95) then (
         F115_J5 K W2 s_1 t_1 t2_1 (!decide (b3 = 45)))
        else (
         F115_J5 K W2 s_1 t_1 t2_1 false))
       else (
        F115_J5 K W2 s_1 t_1 t2_1 false))
      else (
       F115_J5 K W2 s_1 t_1 t2_1 false)))
    else (
     F115_J5 K W2 s_1 t_1 t2_1 false)))
  else (
   F115_J5 K W2 s_1 t_1 t2_1 false)))
 else (
  bif !decide (s_1 = (⟨#[]⟩ : ByteArray)) then (
  bif decide ((s_1.size : Int) <= 40) then (
   bif !decide (s_1 = (⟨#[46]⟩ : ByteArray)) then (
    K (.bool (!decide (s_1 = (⟨#[46, 46]⟩ : ByteArray)))) [])
   else (
    K (.bool false) []))
  else (
   K (.bool false) []))
 else (
  K (.bool false) []))
def F115_L2 (K : Kn) (g : prodL [.str, .int .i64, .int .i64]) : Prop :=
 LoopW (γ := prodL [.str, .int .i64, .int .i64]) (fun V y => F115_B2 K V y.1 y.2.1 y.2.2.1) g
def F115 (g : prodL L115) (K : Kn) : Prop :=
 F115_L2 K (g.1, (g.1.size : Int), 0, ())
theorem F115_eq (g : prodL L115) (K X : Kn) : F115 g K = dfun D (gamX [] []) (isRaw []) H115 J115 63 [.tmp 2] (codeOf Tryz.f115) (argsT S115 L115 g) [] (settle0 K) X := by kernel_rfl
theorem F115_ok (g : prodL L115) (K X : Kn) (h : F115 g K) : FCalls Tryz.prog 115 (argsT S115 L115 g) [] K X :=
 FCalls.settle0 (dfun_sound D_ok (gmX gm0) gamX_det rfl Tryz.func115 (c := codeOf Tryz.f115) rfl Tryz.ntmps115 Tryz.results115 (by unfold enters; rw [Tryz.func115]; kernel_rfl) (Nat.le_of_ble_eq_true (by kernel_rfl)) (c0 := 0) (Eq.mp (F115_eq g K X) h))
end Go.Proofs.YtbglndogddddoaaGreatDoor
namespace Go.Proofs.YtbglndogddddoaaGreatDoor
open Go.RowKit
theorem F41_is {a b : Int} {K : Kn} (h : K (.int .i64 (cmpN a b)) []) : F41 (a, b, ()) K := by
 unfold F41
 simp only [decide_true, Bool.not_true, cond_false]
 refine ⟨trivial, trivial, ?_⟩
 unfold cmpN at h
 cases c : decide (a < b) <;> simp only [c, cond_true, cond_false] at h ⊢
 . cases d : decide (b < a) <;> simp only [d, cond_true, cond_false] at h ⊢ <;> exact h
 . exact h
def sp41 : Sp := ⟨S41, L41, fun _ => True, fun g => .int .i64 (cmpN g.1 g.2.1), fun _ => none⟩
theorem sp41_ok : sp41.Ok Tryz.prog 41 false :=
 ⟨fun g K X _ h => F41_ok g K X (F41_is h), fun _ _ _ => rfl, fun _ => rfl, by first | exact fun _ _ => ⟨rfl, rfl⟩ | (intro h; cases h)⟩
end Go.Proofs.YtbglndogddddoaaGreatDoor
namespace Go.Proofs.YtbglndogddddoaaGreatDoor
open Go.RowKit Go.Lib
theorem run_bytesSl {P : Program} [Bd P] {g : G P} {st : St} {w : World} (hg : Good g st w) {full : Bool} {l : List Int} {x : Value} (h : R g (.sl full .u8 l) x) : (Extern.Bytes.bytesOf x).run P w = .ok ⟨(bs l).toArray⟩ w := by
 cases h with
 | sl _ _ _ A c h1 h2 h3 h4 =>
  by_cases hl : l = []
  . subst hl
    cases A with
    | none => rfl
    | some a => rfl
  . obtain ⟨b, off, cs, rfl, k2, k3⟩ := h4 hl
    obtain ⟨blk, E, fr, p1, p2⟩ := hg.ro b cs k2
    obtain ⟨he, _⟩ := encs_u8 (e := .u8) (f := id) rfl l
    have hrow := RowAt.ofR p2 p1 off (l.length * sz .u8) (by rw [k3]; exact encs_pure)
    rw [k3, he] at hrow
    have hc : ∀ (j : Nat) (y : Int), l[j]? = some y -> w.cell? ((⟨b, off, none⟩ : Addr).add j) = some (.int .u8 y) := fun j y hj => by
     obtain ⟨z, y1, _, y3⟩ := hrow j (.int .u8 y) (by simp only [id, List.getElem?_map, hj]; rfl)
     cases y3
     rw [Addr.add_lit]; exact y1
    have hl := run_loadBytesX (P := P) w l ⟨b, off, none⟩ .empty hc
    show (Extern.Bytes.loadBytes ⟨b, off, none⟩ l.length .empty).run P w = _
    rw [hl]
    congr 1
    apply ByteArray.ext
    show (#[] : Array UInt8) ++ (Lib.bytesOf l).toArray = (bs l).toArray
    rw [Array.empty_append]
    rfl
theorem run_compare {P : Program} {w : World} {x y : Value} {l m : List UInt8} (hx : (Extern.Bytes.bytesOf x).run P w = .ok ⟨l.toArray⟩ w) (hy : (Extern.Bytes.bytesOf y).run P w = .ok ⟨m.toArray⟩ w) :
  (Extern.BytealgCompare.compare #[x, y]).run P w = .ok (.int .i64 (compareBytes l m)) w := by
 change Sem.run P (do pure (goInt (Extern.BytealgCompare.cmp (<- Extern.Bytes.bytesOf x) (<- Extern.Bytes.bytesOf y)))) w = _
 simp only [Sem.run_bind, hx, hy, Sem.run_pure, Result.andThen]
 rw [cmp_eq]
 rfl
set_option maxHeartbeats 1000000 in
set_option maxRecDepth 100000 in
theorem cmp_calls {w : World} {x y : Value} {l m : List UInt8} (hx : (Extern.Bytes.bytesOf x).run Tryz.prog w = .ok ⟨l.toArray⟩ w) (hy : (Extern.Bytes.bytesOf y).run Tryz.prog w = .ok ⟨m.toArray⟩ w) :
  Calls Tryz.prog 40 #[x, y] w fun e w' => e = .returned (.int .i64 (compareBytes l m)) /\ w' = w := by
 go_enter Tryz.func40, Tryz.ntmps40
 go_wp2
 rw [run_callFunc_extern Tryz.func82 (by kernel_rfl) (by kernel_rfl) (by kernel_rfl) (e := Extern.BytealgCompare.compare) (by kernel_rfl), run_compare hx hy]
 simp only [Result.andThen]
 rw [Oper.upon_value]
 go_wp2
 go_ret
 exact ⟨rfl, rfl⟩
set_option maxHeartbeats 1000000 in
set_option maxRecDepth 100000 in
theorem idx_calls {w : World} {s : ByteArray} {c : Int} :
  Calls Tryz.prog 208 #[.string s, .int .u8 c] w fun e w' => e = .returned (.int .i64 (Lib.indexByte s.data.toList c.toNat.toUInt8)) /\ w' = w := by
 go_enter Tryz.func208, Tryz.ntmps208
 go_wp2
 rw [run_callFunc_extern Tryz.func227 (by kernel_rfl) (by kernel_rfl) (by kernel_rfl) (e := Extern.BytealgIndexByte.indexByte) (by kernel_rfl), Lib.run_indexByteString]
 simp only [Result.andThen]
 rw [Oper.upon_value]
 go_wp2
 go_ret
 exact ⟨rfl, rfl⟩
theorem rl_two {P : Program} {g : G P} {u v : T} {args : Array Value} (h : RL g [u, v] args) : ∃ x y, args = #[x, y] /\ R g u x /\ R g v y := by
 have h2 : args.size = 2 := h.len.symm
 refine ⟨args[0], args[1], Array.ext (by simpa using h2) fun i h1 h3 => ?_, h.val 0 u _ rfl (Array.getElem?_eq_getElem (by omega)), h.val 1 v _ rfl (Array.getElem?_eq_getElem (by omega))⟩
 have : i = 0 ∨ i = 1 := by simp at h3; omega
 rcases this with rfl | rfl <;> rfl
def cmpBs (l m : List Int) : Int := compareBytes (bs l) (bs m)
def idxB (s : ByteArray) (c : Int) : Int := Lib.indexByte s.data.toList c.toNat.toUInt8
def sp40 : Sp := ⟨[.leaf, .leaf], [.sl .u8, .sl .u8], fun _ => True, fun g => .int .i64 (cmpBs g.1 g.2.1), fun _ => none⟩
theorem sp40_ok : sp40.Ok Tryz.prog 40 true :=
 ⟨by
  rintro ⟨l, m, ⟨⟩⟩ K X hp hK g w hg
  refine Atc.of (by kernel_rfl) fun args hr => ?_
  obtain ⟨x, y, rfl, hx, hy⟩ := rl_two hr
  refine (cmp_calls (run_bytesSl hg hx) (run_bytesSl hg hy)).mono ?_
  rintro e w' ⟨rfl, rfl⟩
  exact ⟨g, [], hg, Step.refl, _, hK, .int _ _⟩, fun _ _ _ => rfl, fun _ => rfl, fun _ _ => ⟨rfl, rfl⟩⟩
def sp208 : Sp := ⟨[.leaf, .leaf], [.str, .int .u8], fun _ => True, fun g => .int .i64 (idxB g.1 g.2.1), fun _ => none⟩
theorem sp208_ok : sp208.Ok Tryz.prog 208 true :=
 ⟨by
  rintro ⟨s, c, ⟨⟩⟩ K X hp hK g w hg
  refine Atc.of (by kernel_rfl) fun args hr => ?_
  obtain ⟨x, y, rfl, hx, hy⟩ := rl_two hr
  cases hx
  cases hy
  refine idx_calls.mono ?_
  rintro e w' ⟨rfl, rfl⟩
  exact ⟨g, [], hg, Step.refl, _, hK, .int _ _⟩, fun _ _ _ => rfl, fun _ => rfl, fun _ _ => ⟨rfl, rfl⟩⟩
end Go.Proofs.YtbglndogddddoaaGreatDoor
namespace Go.Proofs.YtbglndogddddoaaGreatDoor
open Go.RowKit
attribute [local irreducible] dfun dround
set_option maxRecDepth 100000
def H18 : List (Nat × Hint) := []
def J18 : List (Nat × Hint) := []
abbrev S18 : List Sh := [.leaf, .leaf]
abbrev L18 : List Lf := [.el .dig, .el .dig]
def F18 (g : prodL L18) (K : Kn) : Prop :=
 True /\
 K (.int .i64 (cmpBs (digL g.1) (digL g.2.1))) []
theorem F18_eq (g : prodL L18) (K X : Kn) : F18 g K = dfun D (gamX [] [(40, true, sp40)]) (isRaw []) H18 J18 8 [.tmp 4] (codeOf Tryz.f18) (argsT S18 L18 g) [] (settle0 K) X := by kernel_rfl
theorem F18_ok (g : prodL L18) (K X : Kn) (h : F18 g K) : FCalls Tryz.prog 18 (argsT S18 L18 g) [] K X :=
 FCalls.settle0 (dfun_sound (Γ := gamX [] [(40, true, sp40)]) (mu := isRaw []) (H := H18) (J := J18) D_ok (gamX_ok (rs := []) (l := [(40, true, sp40)]) (fun p hp => by cases hp) (by intro p hp; simp only [List.mem_cons, List.not_mem_nil, or_false] at hp; subst hp; exact sp40_ok)) gamX_det rfl Tryz.func18 (c := codeOf Tryz.f18) rfl Tryz.ntmps18 Tryz.results18 (by unfold enters; rw [Tryz.func18]; kernel_rfl) (Nat.le_of_ble_eq_true (by kernel_rfl)) (c0 := 0) (Eq.mp (F18_eq g K X) h))
def sp18 : Sp := ⟨S18, L18, fun _ => True, fun g => .int .i64 (digC g.1 g.2.1), fun _ => none⟩
theorem sp18_ok : sp18.Ok Tryz.prog 18 true :=
 ⟨fun g K X hp h => F18_ok g K X (by
  have h : K (.int .i64 (digC g.1 g.2.1)) [] := h
  exact ⟨trivial, h⟩), fun _ _ _ => rfl, fun _ => rfl, by first | exact fun _ _ => ⟨rfl, rfl⟩ | (intro h; cases h)⟩
def H159 : List (Nat × Hint) := []
def J159 : List (Nat × Hint) := []
abbrev S159 : List Sh := [.leaf, .leaf]
abbrev L159 : List Lf := [.str, .int .u8]
def F159 (g : prodL L159) (K : Kn) : Prop :=
 True /\
 K (.int .i64 (idxB g.1 g.2.1)) []
theorem F159_eq (g : prodL L159) (K X : Kn) : F159 g K = dfun D (gamX [] [(208, true, sp208)]) (isRaw []) H159 J159 8 [.tmp 4] (codeOf Tryz.f159) (argsT S159 L159 g) [] (settle0 K) X := by kernel_rfl
theorem F159_ok (g : prodL L159) (K X : Kn) (h : F159 g K) : FCalls Tryz.prog 159 (argsT S159 L159 g) [] K X :=
 FCalls.settle0 (dfun_sound (Γ := gamX [] [(208, true, sp208)]) (mu := isRaw []) (H := H159) (J := J159) D_ok (gamX_ok (rs := []) (l := [(208, true, sp208)]) (fun p hp => by cases hp) (by intro p hp; simp only [List.mem_cons, List.not_mem_nil, or_false] at hp; subst hp; exact sp208_ok)) gamX_det rfl Tryz.func159 (c := codeOf Tryz.f159) rfl Tryz.ntmps159 Tryz.results159 (by unfold enters; rw [Tryz.func159]; kernel_rfl) (Nat.le_of_ble_eq_true (by kernel_rfl)) (c0 := 0) (Eq.mp (F159_eq g K X) h))
def sp159 : Sp := ⟨S159, L159, fun _ => True, fun g => .int .i64 (idxB g.1 g.2.1), fun _ => none⟩
theorem sp159_ok : sp159.Ok Tryz.prog 159 true :=
 ⟨fun g K X hp h => F159_ok g K X (by
  have h : K (.int .i64 (idxB g.1 g.2.1)) [] := h
  exact ⟨trivial, h⟩), fun _ _ _ => rfl, fun _ => rfl, by first | exact fun _ _ => ⟨rfl, rfl⟩ | (intro h; cases h)⟩
def H17 : List (Nat × Hint) := []
def J17 : List (Nat × Hint) := []
abbrev S17 : List Sh := [.leaf, .leaf]
abbrev L17 : List Lf := [.el .idk, .el .idk]
def F17 (g : prodL L17) (K : Kn) : Prop :=
 True /\
 bif !decide (cmpBs (digL g.1.patch) (digL g.2.1.patch) = 0) then (
  K (.int .i64 (cmpBs (digL g.1.patch) (digL g.2.1.patch))) [])
 else (
  True /\
 K (.int .i64 (cmpN g.1.n g.2.1.n)) [])
theorem F17_eq (g : prodL L17) (K X : Kn) : F17 g K = dfun D (gamX [] [(40, true, sp40), (41, false, sp41)]) (isRaw []) H17 J17 19 [.tmp 4] (codeOf Tryz.f17) (argsT S17 L17 g) [] (settle0 K) X := by kernel_rfl
theorem F17_ok (g : prodL L17) (K X : Kn) (h : F17 g K) : FCalls Tryz.prog 17 (argsT S17 L17 g) [] K X :=
 FCalls.settle0 (dfun_sound D_ok (gmX (gmc sp40_ok (gmc sp41_ok gm0))) gamX_det rfl Tryz.func17 (c := codeOf Tryz.f17) rfl Tryz.ntmps17 Tryz.results17 (by unfold enters; rw [Tryz.func17]; kernel_rfl) (Nat.le_of_ble_eq_true (by kernel_rfl)) (c0 := 0) (Eq.mp (F17_eq g K X) h))
def sp17 : Sp := ⟨S17, L17, fun _ => True, fun g => .int .i64 (idC g.1 g.2.1), fun _ => none⟩
theorem sp17_ok : sp17.Ok Tryz.prog 17 true :=
 ⟨fun g K X hp h => F17_ok g K X (by
  have h : K (.int .i64 (idC g.1 g.2.1)) [] := h
  revert h; unfold F17 idC; show (fun v => K (.int .i64 v) []) _ -> _
  repeat' (first | exact id | refine bifT (K := fun v => K (.int .i64 v) []) ?_ ?_ | (intro h; refine ⟨trivial, ?_⟩; revert h))), fun _ _ _ => rfl, fun _ => rfl, by first | exact fun _ _ => ⟨rfl, rfl⟩ | (intro h; cases h)⟩
end Go.Proofs.YtbglndogddddoaaGreatDoor
namespace Go.Proofs.YtbglndogddddoaaGreatDoor
open Go.RowKit
def szP (s : ByteArray) : Prop := s.size <= 2147483648
theorem getB {s : ByteArray} {n : Nat} (h : n < s.size) : s.data.toList[n]? = some (s.data[n]'h) := by
 rw [List.getElem?_eq_getElem (by simpa using h)]; simp
theorem StrAt_get {s : ByteArray} {n : Nat} {K : Int -> Prop} (h : n < s.size) (hK : K ((s.data[n]'h).toNat : Int)) : StrAt s (n : Int) K :=
 ⟨Int.natCast_nonneg _, s.data[n]'h, getElem?_pos s n h, hK⟩
theorem all_bytes (s : ByteArray) (q : UInt8 -> Bool) : s.data.toList.all q = decide (∀ n, n < s.size -> (s.data.toList[n]?).all q = true) := by
 rw [dec_allO]; rfl
theorem F115_is {s : ByteArray} {K : Kn} (hs : szP s) (h : K (.bool (nameB s)) []) : F115 (s, ()) K := by
 unfold szP at hs
 unfold nameB at h
 rw [all_bytes] at h
 unfold F115
 refine LoopW.all s.size (fun n => (s, (s.size : Int), (n : Int), ())) (fun n => (s.data.toList[n]?).all chrB) (fun r => K (.bool (r && restN s)) []) h rfl (fun W n hn ht hf => ?_) fun ht W => ?_
 . show F115_B2 K W s (s.size : Int) n
   unfold F115_B2
   rw [lt_true hn, cond_true]
   refine StrAt_get hn ?_
   simp only [getB hn, Option.all_some] at ht hf
   rw [Bool.false_and] at hf
   generalize s.data[n]'hn = c at ht hf ⊢
   have e1 : chrB c = true -> F115_J5 K W s s.size n false := fun e => by unfold F115_J5; rw [cond_false, wrapS hn (by omega)]; exact ht e
   have e2 : chrB c = false -> F115_J5 K W s s.size n true := fun e => by unfold F115_J5; rw [cond_true]; exact hf e
   simp only [Bool.cond_eq_ite, decide_eq_true_eq, Bool.not_eq_true', decide_eq_false_iff_not]
   (repeat' split) <;> first
    | exact e1 (decide_eq_true (by omega))
    | exact e2 (decide_eq_false (by omega))
    | (by_cases d : ((c.toNat : Nat) : Int) = 45 <;> simp only [d, decide_true, decide_false, Bool.not_true, Bool.not_false] <;> first | exact e1 (decide_eq_true (by omega)) | exact e2 (decide_eq_false (by omega)))
 . show F115_B2 K W s (s.size : Int) (s.size : Int)
   unfold F115_B2
   rw [lt_false, cond_false]
   rw [Bool.true_and] at ht
   revert ht
   unfold restN
   repeat' (first | exact id | refine bifT (K := fun v => K (.bool v) []) ?_ ?_)
def sp115 : Sp := ⟨S115, L115, fun g => szP g.1, fun g => .bool (nameB g.1), fun _ => none⟩
theorem sp115_ok : sp115.Ok Tryz.prog 115 true :=
 ⟨fun g K X hp h => F115_ok g K X (F115_is hp h), fun _ _ _ => rfl, fun _ => rfl, fun _ _ => ⟨rfl, rfl⟩⟩
end Go.Proofs.YtbglndogddddoaaGreatDoor
namespace Go.Proofs.YtbglndogddddoaaGreatDoor
open Go.RowKit
attribute [local irreducible] dfun dround
set_option maxRecDepth 100000
def H117 : List (Nat × Hint) := []
def J117 : List (Nat × Hint) := []
abbrev S117 : List Sh := [.leaf]
abbrev L117 : List Lf := [.str]
def F117 (g : prodL L117) (K : Kn) : Prop :=
 bif decide ((g.1.size : Int) <= 1000) then (
  True /\
  bif decide (idxB g.1 10 < 0) then (
   True /\
   K (.bool (decide (idxB g.1 0 < 0))) [])
  else (
   K (.bool false) []))
 else (
  K (.bool false) [])
theorem F117_eq (g : prodL L117) (K X : Kn) : F117 g K = dfun D (gamX [] [(159, true, sp159)]) (isRaw []) H117 J117 16 [.tmp 2] (codeOf Tryz.f117) (argsT S117 L117 g) [] (settle0 K) X := by kernel_rfl
theorem F117_ok (g : prodL L117) (K X : Kn) (h : F117 g K) : FCalls Tryz.prog 117 (argsT S117 L117 g) [] K X :=
 FCalls.settle0 (dfun_sound (Γ := gamX [] [(159, true, sp159)]) (mu := isRaw []) (H := H117) (J := J117) D_ok (gamX_ok (rs := []) (l := [(159, true, sp159)]) (fun p hp => by cases hp) (by intro p hp; simp only [List.mem_cons, List.not_mem_nil, or_false] at hp; subst hp; exact sp159_ok)) gamX_det rfl Tryz.func117 (c := codeOf Tryz.f117) rfl Tryz.ntmps117 Tryz.results117 (by unfold enters; rw [Tryz.func117]; kernel_rfl) (Nat.le_of_ble_eq_true (by kernel_rfl)) (c0 := 0) (Eq.mp (F117_eq g K X) h))
def H207 : List (Nat × Hint) := [(2, ⟨[], [(0, .leaf), (1, .leaf), (7, .leaf), (8, .leaf)], [], [.sl .i64, .int .i64, .int .i64, .int .i64]⟩)]
def J207 : List (Nat × Hint) := []
abbrev S207 : List Sh := [.leaf, .leaf]
abbrev L207 : List Lf := [.sl .i64, .int .i64]
def F207_B2 (K : Kn) (W2 : prodL [.sl .i64, .int .i64, .int .i64, .int .i64] -> Prop) (s_1 : List Int) (v_1 t_1 t2_1 : Int) : Prop :=
 bif decide (t2_1 < t_1) then (
  At s_1 t2_1 fun u3 =>
 bif decide (v_1 = u3) then (
  K (.int .i64 t2_1) [])
 else (
  W2 (s_1, v_1, t_1, IntKind.i64.wrap (t2_1 + 1), ())))
 else (
  K (.int .i64 (-1)) [])
def F207_L2 (K : Kn) (g : prodL [.sl .i64, .int .i64, .int .i64, .int .i64]) : Prop :=
 LoopW (γ := prodL [.sl .i64, .int .i64, .int .i64, .int .i64]) (fun V y => F207_B2 K V y.1 y.2.1 y.2.2.1 y.2.2.2.1) g
def F207 (g : prodL L207) (K : Kn) : Prop :=
 F207_L2 K (g.1, g.2.1, (g.1.length : Int), 0, ())
theorem F207_eq (g : prodL L207) (K X : Kn) : F207 g K = dfun D (gamX [] []) (isRaw []) H207 J207 19 [.tmp 4] (codeOf Tryz.f207) (argsT S207 L207 g) [] (settle0 K) X := by kernel_rfl
theorem F207_ok (g : prodL L207) (K X : Kn) (h : F207 g K) : FCalls Tryz.prog 207 (argsT S207 L207 g) [] K X :=
 FCalls.settle0 (dfun_sound D_ok (gmX gm0) gamX_det rfl Tryz.func207 (c := codeOf Tryz.f207) rfl Tryz.ntmps207 Tryz.results207 (by unfold enters; rw [Tryz.func207]; kernel_rfl) (Nat.le_of_ble_eq_true (by kernel_rfl)) (c0 := 0) (Eq.mp (F207_eq g K X) h))
end Go.Proofs.YtbglndogddddoaaGreatDoor
namespace Go.Proofs.YtbglndogddddoaaGreatDoor
open Go.RowKit
theorem idx_neg : ∀ (l : List UInt8) (c : UInt8), decide (Lib.indexByte l c < 0) = l.all fun x => !(x == c)
 | [], c => rfl
 | b :: l, c => by
  have ih := idx_neg l c
  unfold Lib.indexByte
  cases e : b == c
  . simp only [Bool.false_eq_true, if_false, List.all_cons, e, Bool.not_false, Bool.true_and]
    rw [<- ih]
    have hg := Lib.indexByte_ge l c
    by_cases h : Lib.indexByte l c = -1
    . rw [h]; rfl
    . have : (Lib.indexByte l c == -1) = false := by simpa using h
      rw [this, decide_eq_decide]
      simp only [Bool.false_eq_true, if_false]
      omega
  . simp [e]
theorem lineB_eq (s : ByteArray) : lineB s = bif decide ((s.size : Int) <= 1000) then (bif decide (idxB s 10 < 0) then decide (idxB s 0 < 0) else false) else false := by
 unfold lineB
 have : cleanB s 10 0 = bif decide (idxB s 10 < 0) then decide (idxB s 0 < 0) else false := by
  unfold cleanB idxB
  rw [idx_neg, idx_neg]
  have e1 : ∀ x : UInt8, decide ((x.toNat : Int) = 10) = (x == (10 : Int).toNat.toUInt8) := fun x => by
   rw [Bool.eq_iff_iff, decide_eq_true_eq, beq_iff_eq, <- UInt8.toNat_inj]
   show _ ↔ x.toNat = 10
   omega
  have e2 : ∀ x : UInt8, decide ((x.toNat : Int) = 0) = (x == (0 : Int).toNat.toUInt8) := fun x => by
   rw [Bool.eq_iff_iff, decide_eq_true_eq, beq_iff_eq, <- UInt8.toNat_inj]
   show _ ↔ x.toNat = 0
   omega
  simp only [e1, e2, Bool.not_or]
  induction s.data.toList with
  | nil => rfl
  | cons a l ih =>
   simp only [List.all_cons, ih]
   cases a == (10 : Int).toNat.toUInt8 <;> cases a == (0 : Int).toNat.toUInt8 <;> simp
 rw [this]
def sp117 : Sp := ⟨S117, L117, fun _ => True, fun g => .bool (lineB g.1), fun _ => none⟩
theorem sp117_ok : sp117.Ok Tryz.prog 117 true :=
 ⟨fun g K X _ h => F117_ok g K X (by
  have h : K (.bool (lineB g.1)) [] := h
  rw [lineB_eq] at h
  revert h
  unfold F117
  exact bifT (K := fun v => K (.bool v) []) (fun h => ⟨trivial, bifT (K := fun v => K (.bool v) []) (fun h => ⟨trivial, h⟩) id h⟩) id), fun _ _ _ => rfl, fun _ => rfl, fun _ _ => ⟨rfl, rfl⟩⟩
theorem F207_is {l : List Int} {n : Int} {K : Kn} (hl : spL l.length) (h : K (.int .i64 (idxI l n)) []) : F207 (l, n, ()) K := by
 unfold spL at hl
 unfold F207
 have key : ∀ (m : Nat), m <= l.length -> (∀ j, j < m -> l[j]? ≠ some n) -> (K (.int .i64 (idxI l n)) [] ) -> idxI l n = (if idxI (l.drop m) n < 0 then -1 else idxI (l.drop m) n + m) := by
  intro m hm hj _
  induction m with
  | zero =>
   rw [List.drop_zero]
   have := idxI_ge l n
   split <;> omega
  | succ m ih =>
   have e := ih (by omega) fun j hj' => hj j (by omega)
   have hlt : m < l.length := by omega
   rw [List.drop_eq_getElem_cons hlt, idxI] at e
   have : ¬ n = l[m] := fun q => hj m (by omega) (by rw [List.getElem?_eq_getElem hlt, q])
   rw [decide_eq_false this, cond_false] at e
   have := idxI_ge (l.drop (m + 1)) n
   cases c : decide (idxI (l.drop (m + 1)) n < 0) <;> simp only [c, cond_true, cond_false] at e
   . have c := of_decide_eq_false c
     rw [if_neg c]; rw [if_neg (by omega)] at e; omega
   . have c := of_decide_eq_true c
     rw [if_pos c]; simpa using e
 refine LoopW.countTo l.length (fun m => (l, n, (l.length : Int), (m : Int), ())) (fun m => ∀ j, j < m -> l[j]? ≠ some n) rfl (fun m hm hj W hW => ?_) (by omega)
 show F207_B2 K W l n l.length m
 unfold F207_B2
 have e := key m hm hj h
 by_cases hlt : m < l.length
 . rw [lt_true hlt, cond_true]
   refine At_of hlt ?_
   by_cases q : n = l[m]
   . rw [decide_eq_true q, cond_true]
     rw [List.drop_eq_getElem_cons hlt, idxI, decide_eq_true q, cond_true] at e
     rw [e] at h
     simpa using h
   . rw [decide_eq_false q, cond_false, wrapS hlt (by omega)]
     refine hW hlt fun j hj' => ?_
     by_cases c : j = m
     . subst c; rw [List.getElem?_eq_getElem hlt]; simpa using fun c => q c.symm
     . exact hj j (by omega)
 . have : m = l.length := by omega
   subst this
   rw [lt_false, cond_false]
   rw [List.drop_length, idxI] at e
   rw [e] at h
   simpa using h
def sp207 : Sp := ⟨S207, L207, fun g => spL g.1.length, fun g => .int .i64 (idxI g.1 g.2.1), fun _ => none⟩
theorem sp207_ok : sp207.Ok Tryz.prog 207 true :=
 ⟨fun g K X hp h => F207_ok g K X (F207_is hp h), fun _ _ _ => rfl, fun _ => rfl, fun _ _ => ⟨rfl, rfl⟩⟩
end Go.Proofs.YtbglndogddddoaaGreatDoor
namespace Go.Proofs.YtbglndogddddoaaGreatDoor
open Go.RowKit
attribute [local irreducible] dfun dround
set_option maxRecDepth 100000
def H158 : List (Nat × Hint) := []
def J158 : List (Nat × Hint) := []
abbrev S158 : List Sh := [.leaf, .leaf]
abbrev L158 : List Lf := [.sl .i64, .int .i64]
def F158 (g : prodL L158) (K : Kn) : Prop :=
 sp207.pre (g.1, g.2.1, ()) /\
 K (.bool (decide (0 <= idxI g.1 g.2.1))) []
theorem F158_eq (g : prodL L158) (K X : Kn) : F158 g K = dfun D (gamX [] [(207, true, sp207)]) (isRaw []) H158 J158 9 [.tmp 4] (codeOf Tryz.f158) (argsT S158 L158 g) [] (settle0 K) X := by kernel_rfl
theorem F158_ok (g : prodL L158) (K X : Kn) (h : F158 g K) : FCalls Tryz.prog 158 (argsT S158 L158 g) [] K X :=
 FCalls.settle0 (dfun_sound (Γ := gamX [] [(207, true, sp207)]) (mu := isRaw []) (H := H158) (J := J158) D_ok (gamX_ok (rs := []) (l := [(207, true, sp207)]) (fun p hp => by cases hp) (by intro p hp; simp only [List.mem_cons, List.not_mem_nil, or_false] at hp; subst hp; exact sp207_ok)) gamX_det rfl Tryz.func158 (c := codeOf Tryz.f158) rfl Tryz.ntmps158 Tryz.results158 (by unfold enters; rw [Tryz.func158]; kernel_rfl) (Nat.le_of_ble_eq_true (by kernel_rfl)) (c0 := 0) (Eq.mp (F158_eq g K X) h))
def sp158 : Sp := ⟨S158, L158, fun g => spL g.1.length, fun g => .bool (decide (0 <= idxI g.1 g.2.1)), fun _ => none⟩
theorem sp158_ok : sp158.Ok Tryz.prog 158 true :=
 ⟨fun g K X hp h => F158_ok g K X (by
  have h : K (.bool (decide (0 <= idxI g.1 g.2.1))) [] := h
  exact ⟨hp, h⟩), fun _ _ _ => rfl, fun _ => rfl, by first | exact fun _ _ => ⟨rfl, rfl⟩ | (intro h; cases h)⟩
def H157 : List (Nat × Hint) := []
def J157 : List (Nat × Hint) := []
abbrev S157 : List Sh := [.leaf, .leaf]
abbrev L157 : List Lf := [.sl .i64, .pr .i64]
def F157 (g : prodL L157) (K : Kn) : Prop :=
 sp158.pre (g.1, g.2.1, ()) /\
 K (.bool (decide (0 <= idxI g.1 g.2.1))) []
theorem F157_eq (g : prodL L157) (K X : Kn) : F157 g K = dfun D (gamX [] [(158, true, sp158)]) (isRaw []) H157 J157 7 [.tmp 3] (codeOf Tryz.f157) (argsT S157 L157 g) [] (settle0 K) X := by kernel_rfl
theorem F157_ok (g : prodL L157) (K X : Kn) (h : F157 g K) : FCalls Tryz.prog 157 (argsT S157 L157 g) [] K X :=
 FCalls.settle0 (dfun_sound (Γ := gamX [] [(158, true, sp158)]) (mu := isRaw []) (H := H157) (J := J157) D_ok (gamX_ok (rs := []) (l := [(158, true, sp158)]) (fun p hp => by cases hp) (by intro p hp; simp only [List.mem_cons, List.not_mem_nil, or_false] at hp; subst hp; exact sp158_ok)) gamX_det rfl Tryz.func157 (c := codeOf Tryz.f157) rfl Tryz.ntmps157 Tryz.results157 (by unfold enters; rw [Tryz.func157]; kernel_rfl) (Nat.le_of_ble_eq_true (by kernel_rfl)) (c0 := 0) (Eq.mp (F157_eq g K X) h))
def sp157 : Sp := ⟨S157, L157, fun g => spL g.1.length, fun g => .bool (decide (0 <= idxI g.1 g.2.1)), fun _ => none⟩
theorem sp157_ok : sp157.Ok Tryz.prog 157 true :=
 ⟨fun g K X hp h => F157_ok g K X (by
  have h : K (.bool (decide (0 <= idxI g.1 g.2.1))) [] := h
  exact ⟨hp, h⟩), fun _ _ _ => rfl, fun _ => rfl, by first | exact fun _ _ => ⟨rfl, rfl⟩ | (intro h; cases h)⟩
set_option maxRecDepth 100000
def H116k1 : List (Nat × Hint) := []
def J116k1 : List (Nat × Hint) := []
abbrev S116k1 : List Sh := [.leaf]
abbrev L116k1 : List Lf := [.el .chg]
def kv116k1 (g : prodL L116k1) : prodL L116k1 := (⟨1, g.1.file, g.1.typ, g.1.parent, g.1.name, g.1.mode, g.1.data, g.1.after, g.1.before, g.1.lines, g.1.over⟩, g.2)
def F116k1 (g : prodL L116k1) (K : Kn) : Prop :=
 sp157.pre ([1], 1, ()) /\
 sp157.pre ([2, 3, 4, 5, 6], 1, ()) /\
 bif idEq g.1.file iz then (
  sp157.pre ([2], 1, ()) /\
  bif idEq g.1.parent iz then (
   bif decide (g.1.name = (⟨#[]⟩ : ByteArray)) then (
    sp157.pre ([3], 1, ()) /\
    bif decide (g.1.mode = 0) then (
     sp157.pre ([4], 1, ()) /\
     bif decide (g.1.data = (⟨#[]⟩ : ByteArray)) then (
      sp157.pre ([5, 6], 1, ()) /\
      bif idEq g.1.after iz then (
       bif idEq g.1.before iz then (
        sp157.pre ([5], 1, ()) /\
        bif decide ((g.1.lines.length : Int) = 0) then (
         sp157.pre ([2, 3, 4, 6, 7], 1, ()) /\
         K (.bool (decide ((g.1.over.length : Int) = 0))) [])
        else (
         K (.bool false) []))
       else (
        K (.bool false) []))
      else (
       K (.bool false) []))
     else (
      K (.bool false) []))
    else (
     K (.bool false) []))
   else (
    K (.bool false) []))
  else (
   K (.bool false) []))
 else (
  K (.bool false) [])
theorem F116k1_eq (g : prodL L116k1) (K X : Kn) : F116k1 g K = dfun D (gamX [] [(157, true, sp157)]) (isRaw []) H116k1 J116k1 104 [.tmp 2] (codeOf Tryz.f116) (argsT S116k1 L116k1 (kv116k1 g)) [] (settle0 K) X := by kernel_rfl
theorem F116k1_ok (g : prodL L116k1) (K X : Kn) (h : F116k1 g K) : FCalls Tryz.prog 116 (argsT S116k1 L116k1 (kv116k1 g)) [] K X :=
 FCalls.settle0 (dfun_sound (Γ := gamX [] [(157, true, sp157)]) (mu := isRaw []) (H := H116k1) (J := J116k1) D_ok (gamX_ok (rs := []) (l := [(157, true, sp157)]) (fun p hp => by cases hp) (by intro p hp; simp only [List.mem_cons, List.not_mem_nil, or_false] at hp; subst hp; exact sp157_ok)) gamX_det rfl Tryz.func116 (c := codeOf Tryz.f116) rfl Tryz.ntmps116 Tryz.results116 (by unfold enters; rw [Tryz.func116]; kernel_rfl) (Nat.le_of_ble_eq_true (by kernel_rfl)) (c0 := 0) (Eq.mp (F116k1_eq g K X) h))
def H116k2 : List (Nat × Hint) := []
def J116k2 : List (Nat × Hint) := []
abbrev S116k2 : List Sh := [.leaf]
abbrev L116k2 : List Lf := [.el .chg]
def kv116k2 (g : prodL L116k2) : prodL L116k2 := (⟨2, g.1.file, g.1.typ, g.1.parent, g.1.name, g.1.mode, g.1.data, g.1.after, g.1.before, g.1.lines, g.1.over⟩, g.2)
def F116k2 (g : prodL L116k2) (K : Kn) : Prop :=
 sp157.pre ([1], 2, ()) /\
 bif decide (g.1.typ = 0) then (
  sp157.pre ([2, 3, 4, 5, 6], 2, ()) /\
  sp157.pre ([2], 2, ()) /\
  sp157.pre ([3], 2, ()) /\
  bif decide (g.1.mode = 0) then (
   sp157.pre ([4], 2, ()) /\
   bif decide (g.1.data = (⟨#[]⟩ : ByteArray)) then (
    sp157.pre ([5, 6], 2, ()) /\
    bif idEq g.1.after iz then (
     bif idEq g.1.before iz then (
      sp157.pre ([5], 2, ()) /\
      bif decide ((g.1.lines.length : Int) = 0) then (
       sp157.pre ([2, 3, 4, 6, 7], 2, ()) /\
       K (.bool true) [])
      else (
       K (.bool false) []))
     else (
      K (.bool false) []))
    else (
     K (.bool false) []))
   else (
    K (.bool false) []))
  else (
   K (.bool false) []))
 else (
  K (.bool false) [])
theorem F116k2_eq (g : prodL L116k2) (K X : Kn) : F116k2 g K = dfun D (gamX [] [(157, true, sp157)]) (isRaw []) H116k2 J116k2 104 [.tmp 2] (codeOf Tryz.f116) (argsT S116k2 L116k2 (kv116k2 g)) [] (settle0 K) X := by kernel_rfl
theorem F116k2_ok (g : prodL L116k2) (K X : Kn) (h : F116k2 g K) : FCalls Tryz.prog 116 (argsT S116k2 L116k2 (kv116k2 g)) [] K X :=
 FCalls.settle0 (dfun_sound (Γ := gamX [] [(157, true, sp157)]) (mu := isRaw []) (H := H116k2) (J := J116k2) D_ok (gamX_ok (rs := []) (l := [(157, true, sp157)]) (fun p hp => by cases hp) (by intro p hp; simp only [List.mem_cons, List.not_mem_nil, or_false] at hp; subst hp; exact sp157_ok)) gamX_det rfl Tryz.func116 (c := codeOf Tryz.f116) rfl Tryz.ntmps116 Tryz.results116 (by unfold enters; rw [Tryz.func116]; kernel_rfl) (Nat.le_of_ble_eq_true (by kernel_rfl)) (c0 := 0) (Eq.mp (F116k2_eq g K X) h))
def H116k3 : List (Nat × Hint) := []
def J116k3 : List (Nat × Hint) := []
abbrev S116k3 : List Sh := [.leaf]
abbrev L116k3 : List Lf := [.el .chg]
def kv116k3 (g : prodL L116k3) : prodL L116k3 := (⟨3, g.1.file, g.1.typ, g.1.parent, g.1.name, g.1.mode, g.1.data, g.1.after, g.1.before, g.1.lines, g.1.over⟩, g.2)
def F116k3 (g : prodL L116k3) (K : Kn) : Prop :=
 sp157.pre ([1], 3, ()) /\
 bif decide (g.1.typ = 0) then (
  sp157.pre ([2, 3, 4, 5, 6], 3, ()) /\
  sp157.pre ([2], 3, ()) /\
  bif idEq g.1.parent iz then (
   bif decide (g.1.name = (⟨#[]⟩ : ByteArray)) then (
    sp157.pre ([3], 3, ()) /\
    sp157.pre ([4], 3, ()) /\
    bif decide (g.1.data = (⟨#[]⟩ : ByteArray)) then (
     sp157.pre ([5, 6], 3, ()) /\
     bif idEq g.1.after iz then (
      bif idEq g.1.before iz then (
       sp157.pre ([5], 3, ()) /\
       bif decide ((g.1.lines.length : Int) = 0) then (
        sp157.pre ([2, 3, 4, 6, 7], 3, ()) /\
        K (.bool true) [])
       else (
        K (.bool false) []))
      else (
       K (.bool false) []))
     else (
      K (.bool false) []))
    else (
     K (.bool false) []))
   else (
    K (.bool false) []))
  else (
   K (.bool false) []))
 else (
  K (.bool false) [])
theorem F116k3_eq (g : prodL L116k3) (K X : Kn) : F116k3 g K = dfun D (gamX [] [(157, true, sp157)]) (isRaw []) H116k3 J116k3 104 [.tmp 2] (codeOf Tryz.f116) (argsT S116k3 L116k3 (kv116k3 g)) [] (settle0 K) X := by kernel_rfl
theorem F116k3_ok (g : prodL L116k3) (K X : Kn) (h : F116k3 g K) : FCalls Tryz.prog 116 (argsT S116k3 L116k3 (kv116k3 g)) [] K X :=
 FCalls.settle0 (dfun_sound (Γ := gamX [] [(157, true, sp157)]) (mu := isRaw []) (H := H116k3) (J := J116k3) D_ok (gamX_ok (rs := []) (l := [(157, true, sp157)]) (fun p hp => by cases hp) (by intro p hp; simp only [List.mem_cons, List.not_mem_nil, or_false] at hp; subst hp; exact sp157_ok)) gamX_det rfl Tryz.func116 (c := codeOf Tryz.f116) rfl Tryz.ntmps116 Tryz.results116 (by unfold enters; rw [Tryz.func116]; kernel_rfl) (Nat.le_of_ble_eq_true (by kernel_rfl)) (c0 := 0) (Eq.mp (F116k3_eq g K X) h))
def H116k4 : List (Nat × Hint) := []
def J116k4 : List (Nat × Hint) := []
abbrev S116k4 : List Sh := [.leaf]
abbrev L116k4 : List Lf := [.el .chg]
def kv116k4 (g : prodL L116k4) : prodL L116k4 := (⟨4, g.1.file, g.1.typ, g.1.parent, g.1.name, g.1.mode, g.1.data, g.1.after, g.1.before, g.1.lines, g.1.over⟩, g.2)
def F116k4 (g : prodL L116k4) (K : Kn) : Prop :=
 sp157.pre ([1], 4, ()) /\
 bif decide (g.1.typ = 0) then (
  sp157.pre ([2, 3, 4, 5, 6], 4, ()) /\
  sp157.pre ([2], 4, ()) /\
  bif idEq g.1.parent iz then (
   bif decide (g.1.name = (⟨#[]⟩ : ByteArray)) then (
    sp157.pre ([3], 4, ()) /\
    bif decide (g.1.mode = 0) then (
     sp157.pre ([4], 4, ()) /\
     sp157.pre ([5, 6], 4, ()) /\
     bif idEq g.1.after iz then (
      bif idEq g.1.before iz then (
       sp157.pre ([5], 4, ()) /\
       bif decide ((g.1.lines.length : Int) = 0) then (
        sp157.pre ([2, 3, 4, 6, 7], 4, ()) /\
        K (.bool true) [])
       else (
        K (.bool false) []))
      else (
       K (.bool false) []))
     else (
      K (.bool false) []))
    else (
     K (.bool false) []))
   else (
    K (.bool false) []))
  else (
   K (.bool false) []))
 else (
  K (.bool false) [])
theorem F116k4_eq (g : prodL L116k4) (K X : Kn) : F116k4 g K = dfun D (gamX [] [(157, true, sp157)]) (isRaw []) H116k4 J116k4 104 [.tmp 2] (codeOf Tryz.f116) (argsT S116k4 L116k4 (kv116k4 g)) [] (settle0 K) X := by kernel_rfl
theorem F116k4_ok (g : prodL L116k4) (K X : Kn) (h : F116k4 g K) : FCalls Tryz.prog 116 (argsT S116k4 L116k4 (kv116k4 g)) [] K X :=
 FCalls.settle0 (dfun_sound (Γ := gamX [] [(157, true, sp157)]) (mu := isRaw []) (H := H116k4) (J := J116k4) D_ok (gamX_ok (rs := []) (l := [(157, true, sp157)]) (fun p hp => by cases hp) (by intro p hp; simp only [List.mem_cons, List.not_mem_nil, or_false] at hp; subst hp; exact sp157_ok)) gamX_det rfl Tryz.func116 (c := codeOf Tryz.f116) rfl Tryz.ntmps116 Tryz.results116 (by unfold enters; rw [Tryz.func116]; kernel_rfl) (Nat.le_of_ble_eq_true (by kernel_rfl)) (c0 := 0) (Eq.mp (F116k4_eq g K X) h))
def H116k5 : List (Nat × Hint) := []
def J116k5 : List (Nat × Hint) := []
abbrev S116k5 : List Sh := [.leaf]
abbrev L116k5 : List Lf := [.el .chg]
def kv116k5 (g : prodL L116k5) : prodL L116k5 := (⟨5, g.1.file, g.1.typ, g.1.parent, g.1.name, g.1.mode, g.1.data, g.1.after, g.1.before, g.1.lines, g.1.over⟩, g.2)
def F116k5 (g : prodL L116k5) (K : Kn) : Prop :=
 sp157.pre ([1], 5, ()) /\
 bif decide (g.1.typ = 0) then (
  sp157.pre ([2, 3, 4, 5, 6], 5, ()) /\
  sp157.pre ([2], 5, ()) /\
  bif idEq g.1.parent iz then (
   bif decide (g.1.name = (⟨#[]⟩ : ByteArray)) then (
    sp157.pre ([3], 5, ()) /\
    bif decide (g.1.mode = 0) then (
     sp157.pre ([4], 5, ()) /\
     bif decide (g.1.data = (⟨#[]⟩ : ByteArray)) then (
      sp157.pre ([5, 6], 5, ()) /\
      sp157.pre ([5], 5, ()) /\
      sp157.pre ([2, 3, 4, 6, 7], 5, ()) /\
      K (.bool (decide ((g.1.over.length : Int) = 0))) [])
     else (
      K (.bool false) []))
    else (
     K (.bool false) []))
   else (
    K (.bool false) []))
  else (
   K (.bool false) []))
 else (
  K (.bool false) [])
theorem F116k5_eq (g : prodL L116k5) (K X : Kn) : F116k5 g K = dfun D (gamX [] [(157, true, sp157)]) (isRaw []) H116k5 J116k5 104 [.tmp 2] (codeOf Tryz.f116) (argsT S116k5 L116k5 (kv116k5 g)) [] (settle0 K) X := by kernel_rfl
theorem F116k5_ok (g : prodL L116k5) (K X : Kn) (h : F116k5 g K) : FCalls Tryz.prog 116 (argsT S116k5 L116k5 (kv116k5 g)) [] K X :=
 FCalls.settle0 (dfun_sound (Γ := gamX [] [(157, true, sp157)]) (mu := isRaw []) (H := H116k5) (J := J116k5) D_ok (gamX_ok (rs := []) (l := [(157, true, sp157)]) (fun p hp => by cases hp) (by intro p hp; simp only [List.mem_cons, List.not_mem_nil, or_false] at hp; subst hp; exact sp157_ok)) gamX_det rfl Tryz.func116 (c := codeOf Tryz.f116) rfl Tryz.ntmps116 Tryz.results116 (by unfold enters; rw [Tryz.func116]; kernel_rfl) (Nat.le_of_ble_eq_true (by kernel_rfl)) (c0 := 0) (Eq.mp (F116k5_eq g K X) h))
def H116k6 : List (Nat × Hint) := []
def J116k6 : List (Nat × Hint) := []
abbrev S116k6 : List Sh := [.leaf]
abbrev L116k6 : List Lf := [.el .chg]
def kv116k6 (g : prodL L116k6) : prodL L116k6 := (⟨6, g.1.file, g.1.typ, g.1.parent, g.1.name, g.1.mode, g.1.data, g.1.after, g.1.before, g.1.lines, g.1.over⟩, g.2)
def F116k6 (g : prodL L116k6) (K : Kn) : Prop :=
 sp157.pre ([1], 6, ()) /\
 bif decide (g.1.typ = 0) then (
  sp157.pre ([2, 3, 4, 5, 6], 6, ()) /\
  sp157.pre ([2], 6, ()) /\
  bif idEq g.1.parent iz then (
   bif decide (g.1.name = (⟨#[]⟩ : ByteArray)) then (
    sp157.pre ([3], 6, ()) /\
    bif decide (g.1.mode = 0) then (
     sp157.pre ([4], 6, ()) /\
     bif decide (g.1.data = (⟨#[]⟩ : ByteArray)) then (
      sp157.pre ([5, 6], 6, ()) /\
      sp157.pre ([5], 6, ()) /\
      bif decide ((g.1.lines.length : Int) = 0) then (
       sp157.pre ([2, 3, 4, 6, 7], 6, ()) /\
       K (.bool true) [])
      else (
       K (.bool false) []))
     else (
      K (.bool false) []))
    else (
     K (.bool false) []))
   else (
    K (.bool false) []))
  else (
   K (.bool false) []))
 else (
  K (.bool false) [])
theorem F116k6_eq (g : prodL L116k6) (K X : Kn) : F116k6 g K = dfun D (gamX [] [(157, true, sp157)]) (isRaw []) H116k6 J116k6 104 [.tmp 2] (codeOf Tryz.f116) (argsT S116k6 L116k6 (kv116k6 g)) [] (settle0 K) X := by kernel_rfl
theorem F116k6_ok (g : prodL L116k6) (K X : Kn) (h : F116k6 g K) : FCalls Tryz.prog 116 (argsT S116k6 L116k6 (kv116k6 g)) [] K X :=
 FCalls.settle0 (dfun_sound (Γ := gamX [] [(157, true, sp157)]) (mu := isRaw []) (H := H116k6) (J := J116k6) D_ok (gamX_ok (rs := []) (l := [(157, true, sp157)]) (fun p hp => by cases hp) (by intro p hp; simp only [List.mem_cons, List.not_mem_nil, or_false] at hp; subst hp; exact sp157_ok)) gamX_det rfl Tryz.func116 (c := codeOf Tryz.f116) rfl Tryz.ntmps116 Tryz.results116 (by unfold enters; rw [Tryz.func116]; kernel_rfl) (Nat.le_of_ble_eq_true (by kernel_rfl)) (c0 := 0) (Eq.mp (F116k6_eq g K X) h))
def H116k7 : List (Nat × Hint) := []
def J116k7 : List (Nat × Hint) := []
abbrev S116k7 : List Sh := [.leaf]
abbrev L116k7 : List Lf := [.el .chg]
def kv116k7 (g : prodL L116k7) : prodL L116k7 := (⟨7, g.1.file, g.1.typ, g.1.parent, g.1.name, g.1.mode, g.1.data, g.1.after, g.1.before, g.1.lines, g.1.over⟩, g.2)
def F116k7 (g : prodL L116k7) (K : Kn) : Prop :=
 sp157.pre ([1], 7, ()) /\
 bif decide (g.1.typ = 0) then (
  sp157.pre ([2, 3, 4, 5, 6], 7, ()) /\
  bif idEq g.1.file iz then (
   sp157.pre ([2], 7, ()) /\
   bif idEq g.1.parent iz then (
    bif decide (g.1.name = (⟨#[]⟩ : ByteArray)) then (
     sp157.pre ([3], 7, ()) /\
     bif decide (g.1.mode = 0) then (
      sp157.pre ([4], 7, ()) /\
      bif decide (g.1.data = (⟨#[]⟩ : ByteArray)) then (
       sp157.pre ([5, 6], 7, ()) /\
       bif idEq g.1.after iz then (
        bif idEq g.1.before iz then (
         sp157.pre ([5], 7, ()) /\
         bif decide ((g.1.lines.length : Int) = 0) then (
          sp157.pre ([2, 3, 4, 6, 7], 7, ()) /\
          K (.bool true) [])
         else (
          K (.bool false) []))
        else (
         K (.bool false) []))
       else (
        K (.bool false) []))
      else (
       K (.bool false) []))
     else (
      K (.bool false) []))
    else (
     K (.bool false) []))
   else (
    K (.bool false) []))
  else (
   K (.bool false) []))
 else (
  K (.bool false) [])
theorem F116k7_eq (g : prodL L116k7) (K X : Kn) : F116k7 g K = dfun D (gamX [] [(157, true, sp157)]) (isRaw []) H116k7 J116k7 104 [.tmp 2] (codeOf Tryz.f116) (argsT S116k7 L116k7 (kv116k7 g)) [] (settle0 K) X := by kernel_rfl
theorem F116k7_ok (g : prodL L116k7) (K X : Kn) (h : F116k7 g K) : FCalls Tryz.prog 116 (argsT S116k7 L116k7 (kv116k7 g)) [] K X :=
 FCalls.settle0 (dfun_sound (Γ := gamX [] [(157, true, sp157)]) (mu := isRaw []) (H := H116k7) (J := J116k7) D_ok (gamX_ok (rs := []) (l := [(157, true, sp157)]) (fun p hp => by cases hp) (by intro p hp; simp only [List.mem_cons, List.not_mem_nil, or_false] at hp; subst hp; exact sp157_ok)) gamX_det rfl Tryz.func116 (c := codeOf Tryz.f116) rfl Tryz.ntmps116 Tryz.results116 (by unfold enters; rw [Tryz.func116]; kernel_rfl) (Nat.le_of_ble_eq_true (by kernel_rfl)) (c0 := 0) (Eq.mp (F116k7_eq g K X) h))
end Go.Proofs.YtbglndogddddoaaGreatDoor
namespace Go.Proofs.YtbglndogddddoaaGreatDoor
open Go.RowKit
abbrev KI (K : Kn) : Int -> Prop := fun v => K (.int .i64 v) []
abbrev KBo (K : Kn) : Bool -> Prop := fun v => K (.bool v) []
theorem bifJ {α β : Type} {J : β -> Prop} {f : β -> α} {K : α -> Prop} (hJ : ∀ t, K (f t) -> J t) {c : Bool} {a b : β} (h : K (f (bif c then a else b))) : bif c then J a else J b := by
 cases c
 . exact hJ _ h
 . exact hJ _ h
def rC9 (c : Chg) : Chg := bif decide (c.kind = 1) then ⟨c.kind, c.file, 0, c.parent, c.name, c.mode, c.data, c.after, c.before, c.lines, c.over⟩
 else bif decide (c.kind = 2) then ⟨c.kind, c.file, c.typ, iz, ⟨#[]⟩, c.mode, c.data, c.after, c.before, c.lines, c.over⟩
 else bif decide (c.kind = 3) then ⟨c.kind, c.file, c.typ, c.parent, c.name, 0, c.data, c.after, c.before, c.lines, c.over⟩
 else bif decide (c.kind = 4) then ⟨c.kind, c.file, c.typ, c.parent, c.name, c.mode, ⟨#[]⟩, c.after, c.before, c.lines, c.over⟩
 else bif decide (c.kind = 5) then ⟨c.kind, c.file, c.typ, c.parent, c.name, c.mode, c.data, iz, iz, [], c.over⟩
 else bif decide (c.kind = 6) then ⟨c.kind, c.file, c.typ, c.parent, c.name, c.mode, c.data, iz, iz, c.lines, c.over⟩ else c
def rC5 (t : Bool) (c : Chg) : Chg := bif t then rC9 ⟨c.kind, c.file, c.typ, c.parent, c.name, c.mode, c.data, c.after, c.before, c.lines, []⟩ else rC9 c
def rC10 (c : Chg) : Chg := rC5 (bif !decide (c.kind = 1) then !decide (c.kind = 5) else false) c
def rC2 (t : Bool) (c : Chg) : Chg := bif t then rC10 ⟨c.kind, iz, c.typ, c.parent, c.name, c.mode, c.data, c.after, c.before, c.lines, c.over⟩ else rC10 c
def restC (c : Chg) : Chg := rC2 (bif decide (2 <= c.kind) then decide (c.kind <= 6) else false) c
def emptyT (c : Chg) : Bool := bif decide (c.typ = 0) then (bif idEq c.file iz then (bif idEq c.parent iz then (bif decide (c.name = (⟨#[]⟩ : ByteArray)) then (bif decide (c.mode = 0) then (bif decide (c.data = (⟨#[]⟩ : ByteArray)) then
 (bif idEq c.after iz then (bif idEq c.before iz then (bif decide ((c.lines.length : Int) = 0) then decide ((c.over.length : Int) = 0) else false) else false) else false) else false) else false) else false) else false) else false) else false
def tidyB (c : Chg) : Bool := emptyT (restC c)
def kindP (c : Chg) : Prop := 1 <= c.kind /\ c.kind <= 7
theorem iz_iz : idEq iz iz = true := by rw [idEq_eq]; exact decide_eq_true rfl
theorem F116k1_is {file : Idn} {typ : Int} {parent : Idn} {name : ByteArray} {mode : Int} {data : ByteArray} {after before : Idn} {lines : List ByteArray} {over : List Idn} {K : Kn} (h : K (.bool (tidyB ⟨1, file, typ, parent, name, mode, data, after, before, lines, over⟩)) []) : F116k1 (⟨1, file, typ, parent, name, mode, data, after, before, lines, over⟩, ()) K := by
 revert h
 unfold F116k1 tidyB
 rw [show restC ⟨1, file, typ, parent, name, mode, data, after, before, lines, over⟩ = ⟨1, file, 0, parent, name, mode, data, after, before, lines, over⟩ from rfl]
 unfold emptyT
 simp only [iz_iz, decide_true, List.length_nil, Int.natCast_zero, Int.ofNat_zero, cond_true, cond_false]
 repeat' (first | exact id | (intro h; refine ⟨Nat.le_of_ble_eq_true rfl, ?_⟩; revert h) | refine bifT (K := KBo K) ?_ ?_)
theorem F116k2_is {file : Idn} {typ : Int} {parent : Idn} {name : ByteArray} {mode : Int} {data : ByteArray} {after before : Idn} {lines : List ByteArray} {over : List Idn} {K : Kn} (h : K (.bool (tidyB ⟨2, file, typ, parent, name, mode, data, after, before, lines, over⟩)) []) : F116k2 (⟨2, file, typ, parent, name, mode, data, after, before, lines, over⟩, ()) K := by
 revert h
 unfold F116k2 tidyB
 rw [show restC ⟨2, file, typ, parent, name, mode, data, after, before, lines, over⟩ = ⟨2, iz, typ, iz, ⟨#[]⟩, mode, data, after, before, lines, []⟩ from rfl]
 unfold emptyT
 simp only [iz_iz, decide_true, List.length_nil, Int.natCast_zero, Int.ofNat_zero, cond_true, cond_false]
 repeat' (first | exact id | (intro h; refine ⟨Nat.le_of_ble_eq_true rfl, ?_⟩; revert h) | refine bifT (K := KBo K) ?_ ?_)
theorem F116k3_is {file : Idn} {typ : Int} {parent : Idn} {name : ByteArray} {mode : Int} {data : ByteArray} {after before : Idn} {lines : List ByteArray} {over : List Idn} {K : Kn} (h : K (.bool (tidyB ⟨3, file, typ, parent, name, mode, data, after, before, lines, over⟩)) []) : F116k3 (⟨3, file, typ, parent, name, mode, data, after, before, lines, over⟩, ()) K := by
 revert h
 unfold F116k3 tidyB
 rw [show restC ⟨3, file, typ, parent, name, mode, data, after, before, lines, over⟩ = ⟨3, iz, typ, parent, name, 0, data, after, before, lines, []⟩ from rfl]
 unfold emptyT
 simp only [iz_iz, decide_true, List.length_nil, Int.natCast_zero, Int.ofNat_zero, cond_true, cond_false]
 repeat' (first | exact id | (intro h; refine ⟨Nat.le_of_ble_eq_true rfl, ?_⟩; revert h) | refine bifT (K := KBo K) ?_ ?_)
theorem F116k4_is {file : Idn} {typ : Int} {parent : Idn} {name : ByteArray} {mode : Int} {data : ByteArray} {after before : Idn} {lines : List ByteArray} {over : List Idn} {K : Kn} (h : K (.bool (tidyB ⟨4, file, typ, parent, name, mode, data, after, before, lines, over⟩)) []) : F116k4 (⟨4, file, typ, parent, name, mode, data, after, before, lines, over⟩, ()) K := by
 revert h
 unfold F116k4 tidyB
 rw [show restC ⟨4, file, typ, parent, name, mode, data, after, before, lines, over⟩ = ⟨4, iz, typ, parent, name, mode, ⟨#[]⟩, after, before, lines, []⟩ from rfl]
 unfold emptyT
 simp only [iz_iz, decide_true, List.length_nil, Int.natCast_zero, Int.ofNat_zero, cond_true, cond_false]
 repeat' (first | exact id | (intro h; refine ⟨Nat.le_of_ble_eq_true rfl, ?_⟩; revert h) | refine bifT (K := KBo K) ?_ ?_)
theorem F116k5_is {file : Idn} {typ : Int} {parent : Idn} {name : ByteArray} {mode : Int} {data : ByteArray} {after before : Idn} {lines : List ByteArray} {over : List Idn} {K : Kn} (h : K (.bool (tidyB ⟨5, file, typ, parent, name, mode, data, after, before, lines, over⟩)) []) : F116k5 (⟨5, file, typ, parent, name, mode, data, after, before, lines, over⟩, ()) K := by
 revert h
 unfold F116k5 tidyB
 rw [show restC ⟨5, file, typ, parent, name, mode, data, after, before, lines, over⟩ = ⟨5, iz, typ, parent, name, mode, data, iz, iz, [], over⟩ from rfl]
 unfold emptyT
 simp only [iz_iz, decide_true, List.length_nil, Int.natCast_zero, Int.ofNat_zero, cond_true, cond_false]
 repeat' (first | exact id | (intro h; refine ⟨Nat.le_of_ble_eq_true rfl, ?_⟩; revert h) | refine bifT (K := KBo K) ?_ ?_)
theorem F116k6_is {file : Idn} {typ : Int} {parent : Idn} {name : ByteArray} {mode : Int} {data : ByteArray} {after before : Idn} {lines : List ByteArray} {over : List Idn} {K : Kn} (h : K (.bool (tidyB ⟨6, file, typ, parent, name, mode, data, after, before, lines, over⟩)) []) : F116k6 (⟨6, file, typ, parent, name, mode, data, after, before, lines, over⟩, ()) K := by
 revert h
 unfold F116k6 tidyB
 rw [show restC ⟨6, file, typ, parent, name, mode, data, after, before, lines, over⟩ = ⟨6, iz, typ, parent, name, mode, data, iz, iz, lines, []⟩ from rfl]
 unfold emptyT
 simp only [iz_iz, decide_true, List.length_nil, Int.natCast_zero, Int.ofNat_zero, cond_true, cond_false]
 repeat' (first | exact id | (intro h; refine ⟨Nat.le_of_ble_eq_true rfl, ?_⟩; revert h) | refine bifT (K := KBo K) ?_ ?_)
theorem F116k7_is {file : Idn} {typ : Int} {parent : Idn} {name : ByteArray} {mode : Int} {data : ByteArray} {after before : Idn} {lines : List ByteArray} {over : List Idn} {K : Kn} (h : K (.bool (tidyB ⟨7, file, typ, parent, name, mode, data, after, before, lines, over⟩)) []) : F116k7 (⟨7, file, typ, parent, name, mode, data, after, before, lines, over⟩, ()) K := by
 revert h
 unfold F116k7 tidyB
 rw [show restC ⟨7, file, typ, parent, name, mode, data, after, before, lines, over⟩ = ⟨7, file, typ, parent, name, mode, data, after, before, lines, []⟩ from rfl]
 unfold emptyT
 simp only [iz_iz, decide_true, List.length_nil, Int.natCast_zero, Int.ofNat_zero, cond_true, cond_false]
 repeat' (first | exact id | (intro h; refine ⟨Nat.le_of_ble_eq_true rfl, ?_⟩; revert h) | refine bifT (K := KBo K) ?_ ?_)
def sp116 : Sp := ⟨S116k1, L116k1, fun g => kindP g.1, fun g => .bool (tidyB g.1), fun _ => none⟩
set_option maxRecDepth 100000 in
theorem sp116_ok : sp116.Ok Tryz.prog 116 true :=
 ⟨fun g K X hp h => by
  obtain ⟨⟨kind, file, typ, parent, name, mode, data, after, before, lines, over⟩, ⟨⟩⟩ := g
  have hk1 : (1 : Int) <= kind /\ kind <= 7 := hp
  have : kind = 1 ∨ kind = 2 ∨ kind = 3 ∨ kind = 4 ∨ kind = 5 ∨ kind = 6 ∨ kind = 7 := by omega
  rcases this with rfl | rfl | rfl | rfl | rfl | rfl | rfl
  . exact F116k1_ok (⟨1, file, typ, parent, name, mode, data, after, before, lines, over⟩, ()) K X (F116k1_is h)
  . exact F116k2_ok (⟨2, file, typ, parent, name, mode, data, after, before, lines, over⟩, ()) K X (F116k2_is h)
  . exact F116k3_ok (⟨3, file, typ, parent, name, mode, data, after, before, lines, over⟩, ()) K X (F116k3_is h)
  . exact F116k4_ok (⟨4, file, typ, parent, name, mode, data, after, before, lines, over⟩, ()) K X (F116k4_is h)
  . exact F116k5_ok (⟨5, file, typ, parent, name, mode, data, after, before, lines, over⟩, ()) K X (F116k5_is h)
  . exact F116k6_ok (⟨6, file, typ, parent, name, mode, data, after, before, lines, over⟩, ()) K X (F116k6_is h)
  . exact F116k7_ok (⟨7, file, typ, parent, name, mode, data, after, before, lines, over⟩, ()) K X (F116k7_is h)
  , fun _ _ _ => rfl, fun _ => rfl, fun _ _ => ⟨rfl, rfl⟩⟩
def az : Atm := ⟨iz, 0, iz, 0, iz, ⟨#[]⟩, 0, ⟨#[]⟩, ⟨#[]⟩, iz, iz, []⟩
def errs : List Int -> Int
 | [] => 0
 | e :: l => bif decide (e = 0) then errs l else e
theorem LoopW.errs {γ : Type} {body : (γ -> Prop) -> γ -> Prop} {g : γ} (l : List Int) (S : Nat -> γ) (Q : Int -> Prop) (hQ : Q (errs l)) (hg : g = S 0)
  (step : ∀ (W : γ -> Prop) (n : Nat) (h : n < l.length), (l[n] = 0 -> W (S (n + 1))) -> (l[n] ≠ 0 -> Q l[n]) -> body W (S n)) (last : Q 0 -> ∀ W : γ -> Prop, body W (S l.length)) : LoopW body g := by
 refine LoopW.countTo l.length S (fun n => Q (Go.Proofs.YtbglndogddddoaaGreatDoor.errs (l.drop n))) hg (fun n hn hp W hW => ?_) (by simpa using hQ)
 by_cases hlt : n < l.length
 . rw [List.drop_eq_getElem_cons hlt, Go.Proofs.YtbglndogddddoaaGreatDoor.errs] at hp
   refine step W n hlt (fun h => ?_) fun h => ?_
   . rw [decide_eq_true h, cond_true] at hp
     exact hW hlt hp
   . rw [decide_eq_false h, cond_false] at hp
     exact hp
 . have : n = l.length := by omega
   subst this
   rw [List.drop_length] at hp
   exact last hp W
def errsN (N : Nat) (f : Nat -> Int) : Int := errs ((List.range N).map f)
theorem LoopW.errsN {γ : Type} {body : (γ -> Prop) -> γ -> Prop} {g : γ} (N : Nat) (f : Nat -> Int) (S : Nat -> γ) (Q : Int -> Prop) (hQ : Q (errsN N f)) (hg : g = S 0)
  (step : ∀ (W : γ -> Prop) (n : Nat), n < N -> (f n = 0 -> W (S (n + 1))) -> (f n ≠ 0 -> Q (f n)) -> body W (S n)) (last : Q 0 -> ∀ W : γ -> Prop, body W (S N)) : LoopW body g := by
 have hl : ((List.range N).map f).length = N := by simp
 refine LoopW.errs ((List.range N).map f) S Q hQ hg (fun W n h h1 h2 => ?_) (by rw [hl]; exact last)
 simp only [List.getElem_map, List.getElem_range] at h1 h2
 exact step W n (by omega) h1 h2
def depE (cmp : Dig -> Dig -> Int) (ds : List Dig) (n : Nat) : Int := match ds[n]? with
 | none => 0
 | some d => bif digEq d dz then 1 else bif decide (0 < n) then (match ds[n - 1]? with
  | none => 0
  | some c => bif decide (0 <= cmp c d) then 9 else 0) else 0
def depsE (cmp : Dig -> Dig -> Int) (ds : List Dig) : Int := errsN ds.length (depE cmp ds)
def depsB (cmp : Dig -> Dig -> Int) (ds : List Dig) : Int := bif decide (100 < (ds.length : Int)) then 4 else depsE cmp ds
def headB (cmp : Dig -> Dig -> Int) (a m : ByteArray) (t : Int) (ds : List Dig) (cs : List Chg) : Int :=
 bif !(nameB a) then 5 else bif decide (1000 < (m.size : Int)) then 4 else bif (bif decide (t < 0) then true else decide (1099511627776 < t)) then 2 else
 bif !decide (depsB cmp ds = 0) then depsB cmp ds else bif decide ((cs.length : Int) = 0) then 1 else bif decide (400 < (cs.length : Int)) then 4 else 0
def overE (cmp : Idn -> Idn -> Int) (l : List Idn) (n : Nat) : Int := match l[n]?, l[n + 1]? with
 | some a, some b => bif decide (0 <= cmp a b) then 9 else 0
 | _, _ => 0
def overEs (cmp : Idn -> Idn -> Int) (l : List Idn) : Int := errsN (l.length - 1) (overE cmp l)
def lineE (l : List ByteArray) (n : Nat) : Int := match l[n]? with
 | some s => bif !(lineB s) then 3 else 0
 | none => 0
def linesEs (l : List ByteArray) : Int := errsN l.length (lineE l)
def fP15 (t : Bool) (c : Chg) : Int := bif t then 1 else bif decide (400 < (c.over.length : Int)) then 4 else overEs idC c.over
def fP12 (c : Chg) : Int := bif !decide (linesEs c.lines = 0) then linesEs c.lines else fP15 (bif decide (c.kind = 7) then decide ((c.over.length : Int) = 0) else false) c
def fP6 (t : Bool) (c : Chg) : Int := bif t then 1 else bif decide (2000 < (c.lines.length : Int)) then 4 else fP12 c
def fP7 (t : Bool) (c : Chg) : Int := bif t then 2 else bif decide (65536 < (c.data.size : Int)) then 4 else fP6 (bif decide (c.kind = 5) then decide ((c.lines.length : Int) = 0) else false) c
def fP8 (t : Bool) (c : Chg) : Int := bif t then 5 else fP7 (bif decide (c.mode < 0) then true else decide (511 < c.mode)) c
def fP9 (t : Bool) (c : Chg) : Int := bif t then 8 else fP8 (bif decide (c.kind = 2) then !(nameB c.name) else false) c
def fP10 (t : Bool) (c : Chg) : Int := bif t then 8 else bif !(tidyB c) then 1 else fP9 (bif decide (c.kind = 1) then (bif decide (c.typ < 1) then true else decide (4 < c.typ)) else false) c
def fieldsP (c : Chg) : Int := fP10 (bif decide (c.kind < 1) then true else decide (7 < c.kind)) c
def chP (c : Chg) : Prop := bk_chg c <= 4194304
theorem sum_mem {α : Type} (f : α -> Nat) : ∀ {l : List α} {x : α}, x ∈ l -> f x <= (l.map f).sum
 | y :: l, x, h => by
  rw [List.map_cons, List.sum_cons]
  rcases List.mem_cons.1 h with rfl | h
  . omega
  . have := sum_mem f h; omega
theorem sum_len {α : Type} (f : α -> Nat) (k : Nat) : ∀ (l : List α), (∀ x ∈ l, k <= f x) -> k * l.length <= (l.map f).sum
 | [], _ => by simp
 | y :: l, h => by
  rw [List.map_cons, List.sum_cons, List.length_cons, Nat.mul_succ]
  have := sum_len f k l fun x hx => h x (List.mem_cons_of_mem _ hx)
  have := h y (List.mem_cons_self ..)
  omega
theorem chP_parts {c : Chg} (h : chP c) : c.name.size <= 4194304 /\ c.data.size <= 4194304 /\ c.lines.length <= 4194304 /\ (∀ s ∈ c.lines, s.size <= 4194304) /\ c.over.length <= 4194304 := by
 unfold chP bk_chg at h
 have h1 := sum_len bk_str 1 c.lines fun x _ => by unfold bk_str; omega
 have h2 := sum_len bk_idk 33 c.over fun x _ => Nat.le_refl _
 refine ⟨by omega, by omega, by omega, fun s hs => ?_, by omega⟩
 have := sum_mem bk_str hs
 have e : bk_str s = s.size + 1 := rfl
 omega
end Go.Proofs.YtbglndogddddoaaGreatDoor
namespace Go.Proofs.YtbglndogddddoaaGreatDoor
open Go.RowKit
attribute [local irreducible] dfun dround
set_option maxRecDepth 100000
def H67 : List (Nat × Hint) := [(10, ⟨[((1, []), none)], [(1, .pt 0 0), (31, .leaf), (32, .leaf), (33, .leaf)], [.cells [.leaf, .leaf, .leaf, .leaf, .leaf]], [.sl .dig, .int .i64, .int .i64, .str, .str, .int .i64, .sl .dig, .sl .chg]⟩)]
def J67 : List (Nat × Hint) := [(6, ⟨[((1, []), none)], [(1, .pt 0 0), (16, .leaf)], [.cells [.leaf, .leaf, .leaf, .leaf, .leaf]], [.bool, .str, .str, .int .i64, .sl .dig, .sl .chg]⟩), (15, ⟨[((1, []), none)], [(1, .pt 0 0), (31, .leaf), (32, .leaf), (33, .leaf), (53, .leaf)], [.cells [.leaf, .leaf, .leaf, .leaf, .leaf]], [.sl .dig, .int .i64, .int .i64, .bool, .str, .str, .int .i64, .sl .dig, .sl .chg]⟩)]
abbrev S67 : List Sh := [.ag [.leaf, .leaf, .leaf, .leaf, .leaf]]
abbrev L67 : List Lf := [.str, .str, .int .i64, .sl .dig, .sl .chg]
def F67_J8 (K : Kn) (W4 : prodL [.sl .dig, .int .i64, .int .i64, .str, .str, .int .i64, .sl .dig, .sl .chg] -> Prop) (t_7 : List Dig) (t2_7 t3_7 : Int) (t4_7 : Bool) (p1_7 p2_7 : ByteArray) (p3_7 : Int) (p4_7 : List Dig) (p5_7 : List Chg) : Prop :=
 bif t4_7 then (
  K (.int .i64 9) [])
 else (
  W4 (t_7, t2_7, IntKind.i64.wrap (t3_7 + 1), p1_7, p2_7, p3_7, p4_7, p5_7, ()))
def F67_B4 (K : Kn) (W4 : prodL [.sl .dig, .int .i64, .int .i64, .str, .str, .int .i64, .sl .dig, .sl .chg] -> Prop) (t_3 : List Dig) (t2_3 t3_3 : Int) (p1_3 p2_3 : ByteArray) (p3_3 : Int) (p4_3 : List Dig) (p5_3 : List Chg) : Prop :=
 bif decide (t3_3 < t2_3) then (
  At t_3 t3_3 fun u5 =>
 bif digEq u5 dz then (
  K (.int .i64 1) [])
 else (
  bif decide (0 < t3_3) then (
  At p4_3 (IntKind.i64.wrap (t3_3 - 1)) fun u6 =>
  True /\
  F67_J8 K W4 t_3 t2_3 t3_3 (decide (0 <= digC u6 u5)) p1_3 p2_3 p3_3 p4_3 p5_3)
 else (
  F67_J8 K W4 t_3 t2_3 t3_3 false p1_3 p2_3 p3_3 p4_3 p5_3)))
 else (
  bif decide ((p5_3.length : Int) = 0) then (
  K (.int .i64 1) [])
 else (
  bif decide (400 < (p5_3.length : Int)) then (
   K (.int .i64 4) [])
  else (
   K (.int .i64 0) [])))
def F67_L4 (K : Kn) (g : prodL [.sl .dig, .int .i64, .int .i64, .str, .str, .int .i64, .sl .dig, .sl .chg]) : Prop :=
 LoopW (γ := prodL [.sl .dig, .int .i64, .int .i64, .str, .str, .int .i64, .sl .dig, .sl .chg]) (fun V y => F67_B4 K V y.1 y.2.1 y.2.2.1 y.2.2.2.1 y.2.2.2.2.1 y.2.2.2.2.2.1 y.2.2.2.2.2.2.1 y.2.2.2.2.2.2.2.1) g
def F67_J2 (K : Kn) (t_1 : Bool) (p1_1 p2_1 : ByteArray) (p3_1 : Int) (p4_1 : List Dig) (p5_1 : List Chg) : Prop :=
 bif t_1 then (
    K (.int .i64 2) [])
   else (
    bif decide (100 < (p4_1.length : Int)) then (
     K (.int .i64 4) [])
    else (
     F67_L4 K (p4_1, (p4_1.length : Int), 0, p1_1, p2_1, p3_1, p4_1, p5_1, ())))
def F67 (g : prodL L67) (K : Kn) : Prop :=
 sp115.pre (g.1, ()) /\
 bif !(nameB g.1) then (
  K (.int .i64 5) [])
 else (
  bif decide (1000 < (g.2.1.size : Int)) then (
   K (.int .i64 4) [])
  else (
   bif decide (g.2.2.1 < 0) then (
    F67_J2 K true g.1 g.2.1 g.2.2.1 g.2.2.2.1 g.2.2.2.2.1)
   else (
    F67_J2 K (decide (1099511627776 < g.2.2.1)) g.1 g.2.1 g.2.2.1 g.2.2.2.1 g.2.2.2.2.1)))
theorem F67_eq (g : prodL L67) (K X : Kn) : F67 g K = dfun D (gamX [] [(18, true, sp18), (115, true, sp115)]) (isRaw []) H67 J67 64 [.tmp 2] (codeOf Tryz.f67) (argsT S67 L67 g) [] (settle0 K) X := by kernel_rfl
theorem F67_ok (g : prodL L67) (K X : Kn) (h : F67 g K) : FCalls Tryz.prog 67 (argsT S67 L67 g) [] K X :=
 FCalls.settle0 (dfun_sound D_ok (gmX (gmc sp18_ok (gmc sp115_ok gm0))) gamX_det rfl Tryz.func67 (c := codeOf Tryz.f67) rfl Tryz.ntmps67 Tryz.results67 (by unfold enters; rw [Tryz.func67]; kernel_rfl) (Nat.le_of_ble_eq_true (by kernel_rfl)) (c0 := 0) (Eq.mp (F67_eq g K X) h))
end Go.Proofs.YtbglndogddddoaaGreatDoor
namespace Go.Proofs.YtbglndogddddoaaGreatDoor
open Go.RowKit
set_option maxRecDepth 100000
theorem wrapP {n : Nat} (h : 0 < n /\ n <= 4294967296) : IntKind.i64.wrap ((n : Int) - 1) = ((n - 1 : Nat) : Int) := by
 rw [w64 (by omega)]; omega
theorem posI {n : Nat} (h : 0 < n) : decide ((0 : Int) < (n : Int)) = true := decide_eq_true (by omega)
theorem depE_at {cmp : Dig -> Dig -> Int} {l : List Dig} {n : Nat} (h : n < l.length) : depE cmp l n = bif digEq l[n] dz then 1 else bif decide (0 < n) then (bif decide (0 <= cmp l[n - 1] l[n]) then 9 else 0) else 0 := by
 unfold depE
 rw [getQ h, getQ (show n - 1 < l.length by omega)]
theorem F67_is {a m : ByteArray} {t : Int} {ds : List Dig} {cs : List Chg} {K : Kn} (ha : szP a) (h : KI K (headB digC a m t ds cs)) : F67 (a, m, t, ds, cs, ()) K := by
 unfold F67
 unfold headB at h
 refine ⟨ha, ?_⟩
 show bif !(nameB a) then _ else _
 cases c1 : nameB a
 . rw [c1] at h; exact h
 rw [c1] at h
 simp only [Bool.not_true, cond_false] at h ⊢
 cases c2 : decide (1000 < (m.size : Int))
 rotate_left
 . rw [c2] at h; exact h
 rw [c2] at h
 rw [cond_false] at h ⊢
 have hJ : ∀ b, KI K (bif b then 2 else bif !decide (depsB digC ds = 0) then depsB digC ds else bif decide ((cs.length : Int) = 0) then 1 else bif decide (400 < (cs.length : Int)) then 4 else 0) -> F67_J2 K b a m t ds cs := by
  intro b h
  unfold F67_J2
  cases b
  rotate_left
  . exact h
  rw [cond_false] at h ⊢
  unfold depsB at h
  cases c0 : decide (100 < (ds.length : Int))
  rotate_left
  . rw [c0] at h; exact h
  have hl : ds.length <= 100 := by have := of_decide_eq_false c0; omega
  rw [c0, cond_false] at h
  rw [cond_false]
  unfold F67_L4
  refine LoopW.errsN ds.length (depE digC ds) (fun n => (ds, (ds.length : Int), (n : Int), a, m, t, ds, cs, ())) (fun e => KI K (bif !decide (e = 0) then e else bif decide ((cs.length : Int) = 0) then 1 else bif decide (400 < (cs.length : Int)) then 4 else 0)) h rfl (fun W n hn h0 h1 => ?_) fun h W => ?_
  . show F67_B4 K W ds (ds.length : Int) n a m t ds cs
    unfold F67_B4
    rw [lt_true hn, cond_true]
    rw [depE_at hn] at h0 h1
    refine At_of hn ?_
    cases c1 : digEq ds[n] dz
    . rw [c1] at h0 h1
      rw [cond_false] at h0 h1 ⊢
      by_cases hz : 0 < n
      . rw [posI hz, cond_true]
        rw [decide_eq_true hz, cond_true] at h0 h1
        rw [wrapP (by omega)]
        refine At_of (by omega) ⟨trivial, ?_⟩
        unfold F67_J8
        cases c2 : decide (0 <= digC ds[n - 1] ds[n])
        . rw [c2] at h0; rw [cond_false, wrapS hn (by omega)]; exact h0 rfl
        . rw [c2] at h1; exact h1 (by decide)
      . have : n = 0 := by omega
        subst this
        show F67_J8 K W ds ds.length 0 false a m t ds cs
        unfold F67_J8
        rw [cond_false]
        have := wrapS hn (show ds.length <= 4294967296 by omega)
        have e : IntKind.i64.wrap ((0 : Int) + 1) = ((0 + 1 : Nat) : Int) := this
        rw [e]
        exact h0 rfl
    . rw [c1] at h1; exact h1 (show (1 : Int) ≠ 0 by decide)
  . show F67_B4 K W ds (ds.length : Int) (ds.length : Int) a m t ds cs
    unfold F67_B4
    rw [lt_false, cond_false]
    change KI K (bif decide ((cs.length : Int) = 0) then 1 else bif decide (400 < (cs.length : Int)) then 4 else 0) at h
    revert h
    exact bifT (K := KI K) id (bifT (K := KI K) id id)
 exact bifJ (J := fun b => F67_J2 K b a m t ds cs) (f := fun b => bif b then 2 else bif !decide (depsB digC ds = 0) then depsB digC ds else bif decide ((cs.length : Int) = 0) then 1 else bif decide (400 < (cs.length : Int)) then 4 else 0) (K := KI K) hJ h
def sp67 : Sp := ⟨S67, L67, fun g => szP g.1, fun g => .int .i64 (headB digC g.1 g.2.1 g.2.2.1 g.2.2.2.1 g.2.2.2.2.1), fun _ => none⟩
theorem sp67_ok : sp67.Ok Tryz.prog 67 true :=
 ⟨fun g K X hp h => F67_ok g K X (F67_is hp h), fun _ _ _ => rfl, fun _ => rfl, fun _ _ => ⟨rfl, rfl⟩⟩
theorem lineE_at {l : List ByteArray} {n : Nat} (h : n < l.length) : lineE l n = bif !(lineB l[n]) then 3 else 0 := by
 unfold lineE
 rw [getQ h]
theorem overE_at {cmp : Idn -> Idn -> Int} {l : List Idn} {n : Nat} (h : n + 1 < l.length) : overE cmp l n = bif decide (0 <= cmp l[n] l[n + 1]) then 9 else 0 := by
 unfold overE
 rw [getQ (show n < l.length by omega), getQ h]
end Go.Proofs.YtbglndogddddoaaGreatDoor
namespace Go.Proofs.YtbglndogddddoaaGreatDoor
open Go.RowKit
attribute [local irreducible] dfun dround
set_option maxRecDepth 100000
def H68 : List (Nat × Hint) := [(18, ⟨[((1, []), none)], [(1, .pt 0 0), (73, .leaf), (74, .leaf), (75, .leaf)], [.el], [.sl .str, .int .i64, .int .i64, .el .chg]⟩), (28, ⟨[((1, []), none)], [(1, .pt 0 0), (5, .leaf)], [.el], [.int .i64, .el .chg]⟩)]
def J68 : List (Nat × Hint) := [(2, ⟨[((1, []), none)], [(1, .pt 0 0), (6, .leaf)], [.el], [.bool, .el .chg]⟩), (6, ⟨[((1, []), none)], [(1, .pt 0 0), (19, .leaf)], [.el], [.bool, .el .chg]⟩), (8, ⟨[((1, []), none)], [(1, .pt 0 0), (33, .leaf)], [.el], [.bool, .el .chg]⟩), (10, ⟨[((1, []), none)], [(1, .pt 0 0), (43, .leaf)], [.el], [.bool, .el .chg]⟩), (14, ⟨[((1, []), none)], [(1, .pt 0 0), (57, .leaf)], [.el], [.bool, .el .chg]⟩), (24, ⟨[((1, []), none)], [(1, .pt 0 0), (83, .leaf)], [.el], [.bool, .el .chg]⟩)]
abbrev S68 : List Sh := [.leaf]
abbrev L68 : List Lf := [.el .chg]
def F68_B17 (K : Kn) (W17 : prodL [.int .i64, .el .chg] -> Prop) (i_16 : Int) (c_16 : Chg) : Prop :=
 bif decide (i_16 < (c_16.over.length : Int)) then (
  At c_16.over (IntKind.i64.wrap (i_16 - 1)) fun u18 =>
 At c_16.over i_16 fun u19 =>
 True /\
 bif decide (0 <= idC u18 u19) then (
  K (.int .i64 9) [])
 else (
  W17 (IntKind.i64.wrap (i_16 + 1), c_16, ())))
 else (
  K (.int .i64 0) [])
def F68_L17 (K : Kn) (g : prodL [.int .i64, .el .chg]) : Prop :=
 LoopW (γ := prodL [.int .i64, .el .chg]) (fun V y => F68_B17 K V y.1 y.2.1) g
def F68_J15 (K : Kn) (t_14 : Bool) (c_14 : Chg) : Prop :=
 bif t_14 then (
  K (.int .i64 1) [])
 else (
  bif decide (400 < (c_14.over.length : Int)) then (
   K (.int .i64 4) [])
  else (
   F68_L17 K (1, c_14, ())))
def F68_B12 (K : Kn) (W12 : prodL [.sl .str, .int .i64, .int .i64, .el .chg] -> Prop) (t_11 : List ByteArray) (t2_11 t3_11 : Int) (c_11 : Chg) : Prop :=
 bif decide (t3_11 < t2_11) then (
  At t_11 t3_11 fun u13 =>
 sp117.pre (u13, ()) /\
 bif !(lineB u13) then (
  K (.int .i64 3) [])
 else (
  W12 (t_11, t2_11, IntKind.i64.wrap (t3_11 + 1), c_11, ())))
 else (
  bif decide (c_11.kind = 7) then (
  F68_J15 K (decide ((c_11.over.length : Int) = 0)) c_11)
 else (
  F68_J15 K false c_11))
def F68_L12 (K : Kn) (g : prodL [.sl .str, .int .i64, .int .i64, .el .chg]) : Prop :=
 LoopW (γ := prodL [.sl .str, .int .i64, .int .i64, .el .chg]) (fun V y => F68_B12 K V y.1 y.2.1 y.2.2.1 y.2.2.2.1) g
def F68_J6 (K : Kn) (t_5 : Bool) (c_5 : Chg) : Prop :=
 bif t_5 then (
        K (.int .i64 1) [])
       else (
        bif decide (2000 < (c_5.lines.length : Int)) then (
         K (.int .i64 4) [])
        else (
         F68_L12 K (c_5.lines, (c_5.lines.length : Int), 0, c_5, ())))
def F68_J7 (K : Kn) (t_4 : Bool) (c_4 : Chg) : Prop :=
 bif t_4 then (
      K (.int .i64 2) [])
     else (
      bif decide (65536 < (c_4.data.size : Int)) then (
       K (.int .i64 4) [])
      else (
       bif decide (c_4.kind = 5) then (
        F68_J6 K (decide ((c_4.lines.length : Int) = 0)) c_4)
       else (
        F68_J6 K false c_4)))
def F68_J8 (K : Kn) (t_3 : Bool) (c_3 : Chg) : Prop :=
 bif t_3 then (
     K (.int .i64 5) [])
    else (
     bif decide (c_3.mode < 0) then (
      F68_J7 K true c_3)
     else (
      F68_J7 K (decide (511 < c_3.mode)) c_3))
def F68_J9 (K : Kn) (t_2 : Bool) (c_2 : Chg) : Prop :=
 bif t_2 then (
    K (.int .i64 8) [])
   else (
    bif decide (c_2.kind = 2) then (
     sp115.pre (c_2.name, ()) /\
     F68_J8 K (!(nameB c_2.name)) c_2)
    else (
     F68_J8 K false c_2))
def F68_J10 (K : Kn) (t_1 : Bool) (c_1 : Chg) : Prop :=
 bif t_1 then (
  K (.int .i64 8) [])
 else (
  sp116.pre (c_1, ()) /\
  bif !(tidyB c_1) then (
   K (.int .i64 1) [])
  else (
   bif decide (c_1.kind = 1) then (
    bif decide (c_1.typ < 1) then (
     F68_J9 K true c_1)
    else (
     F68_J9 K (decide (4 < c_1.typ)) c_1))
   else (
    F68_J9 K false c_1)))
def F68 (g : prodL L68) (K : Kn) : Prop :=
 bif decide (g.1.kind < 1) then (
  F68_J10 K true g.1)
 else (
  F68_J10 K (decide (7 < g.1.kind)) g.1)
theorem F68_eq (g : prodL L68) (K X : Kn) : F68 g K = dfun D (gamX [] [(17, true, sp17), (115, true, sp115), (116, true, sp116), (117, true, sp117)]) (isRaw []) H68 J68 118 [.tmp 2] (codeOf Tryz.f68) (argsT S68 L68 g) [] (settle0 K) X := by kernel_rfl
theorem F68_ok (g : prodL L68) (K X : Kn) (h : F68 g K) : FCalls Tryz.prog 68 (argsT S68 L68 g) [] K X :=
 FCalls.settle0 (dfun_sound D_ok (gmX (gmc sp17_ok (gmc sp115_ok (gmc sp116_ok (gmc sp117_ok gm0))))) gamX_det rfl Tryz.func68 (c := codeOf Tryz.f68) rfl Tryz.ntmps68 Tryz.results68 (by unfold enters; rw [Tryz.func68]; kernel_rfl) (Nat.le_of_ble_eq_true (by kernel_rfl)) (c0 := 0) (Eq.mp (F68_eq g K X) h))
end Go.Proofs.YtbglndogddddoaaGreatDoor
namespace Go.Proofs.YtbglndogddddoaaGreatDoor
open Go.RowKit
set_option maxRecDepth 100000
theorem F68_L17_is {c : Chg} {K : Kn} (hl : c.over.length <= 4194304) (h : KI K (overEs idC c.over)) : F68_L17 K (1, c, ()) := by
 unfold F68_L17
 unfold overEs at h
 refine LoopW.errsN (c.over.length - 1) (overE idC c.over) (fun n => (((n + 1 : Nat) : Int), c, ())) (KI K) h rfl (fun W n hn h0 h1 => ?_) fun h W => ?_
 . show F68_B17 K W ((n + 1 : Nat) : Int) c
   unfold F68_B17
   rw [lt_true (show n + 1 < c.over.length by omega), cond_true]
   rw [overE_at (by omega)] at h0 h1
   rw [wrapP (by omega)]
   refine At_of (show n + 1 - 1 < c.over.length by omega) (At_of (show n + 1 < c.over.length by omega) ⟨trivial, ?_⟩)
   simp only [Nat.add_sub_cancel]
   cases e : decide (0 <= idC c.over[n] c.over[n + 1])
   . rw [e] at h0; rw [cond_false, wrapS (show n + 1 < c.over.length by omega) (by omega)]; exact h0 rfl
   . rw [e] at h1; exact h1 (by decide)
 . show F68_B17 K W ((c.over.length - 1 + 1 : Nat) : Int) c
   unfold F68_B17
   rw [decide_eq_false (by omega), cond_false]; exact h
theorem F68_J15_is {t : Bool} {c : Chg} {K : Kn} (hp : chP c) (h : KI K (fP15 t c)) : F68_J15 K t c := by
 unfold F68_J15
 revert h
 unfold fP15
 exact bifT (K := KI K) id (bifT (K := KI K) id (F68_L17_is (chP_parts hp).2.2.2.2))
theorem F68_L12_is {c : Chg} {K : Kn} (hp : chP c) (h : KI K (fP12 c)) : F68_L12 K (c.lines, (c.lines.length : Int), 0, c, ()) := by
 obtain ⟨p1, p2, p3, p4, p5⟩ := chP_parts hp
 unfold F68_L12
 unfold fP12 at h
 refine LoopW.errsN c.lines.length (lineE c.lines) (fun n => (c.lines, (c.lines.length : Int), (n : Int), c, ())) (fun e => KI K (bif !decide (e = 0) then e else fP15 (bif decide (c.kind = 7) then decide ((c.over.length : Int) = 0) else false) c)) h rfl (fun W n hn h0 h1 => ?_) fun h W => ?_
 . show F68_B12 K W c.lines c.lines.length n c
   unfold F68_B12
   rw [lt_true hn, cond_true]
   rw [lineE_at hn] at h0 h1
   refine At_of hn ⟨trivial, ?_⟩
   cases e : lineB c.lines[n]
   . rw [e] at h1; exact h1 (by decide)
   . rw [e] at h0; simp only [Bool.not_true, cond_false]; rw [wrapS hn (by omega)]; exact h0 rfl
 . show F68_B12 K W c.lines c.lines.length c.lines.length c
   unfold F68_B12
   rw [lt_false, cond_false]
   exact bifJ (J := fun b => F68_J15 K b c) (f := fun b => fP15 b c) (K := KI K) (fun _ h => F68_J15_is hp h) h
theorem F68_J6_is {t : Bool} {c : Chg} {K : Kn} (hp : chP c) (h : KI K (fP6 t c)) : F68_J6 K t c := by
 unfold F68_J6
 revert h
 unfold fP6
 exact bifT (K := KI K) id (bifT (K := KI K) id (F68_L12_is hp))
theorem F68_J7_is {t : Bool} {c : Chg} {K : Kn} (hp : chP c) (h : KI K (fP7 t c)) : F68_J7 K t c := by
 unfold F68_J7
 revert h
 unfold fP7
 exact bifT (K := KI K) id (bifT (K := KI K) id (bifJ (J := fun b => F68_J6 K b c) (f := fun b => fP6 b c) (K := KI K) (fun _ h => F68_J6_is hp h)))
theorem F68_J8_is {t : Bool} {c : Chg} {K : Kn} (hp : chP c) (h : KI K (fP8 t c)) : F68_J8 K t c := by
 unfold F68_J8
 revert h
 unfold fP8
 exact bifT (K := KI K) id (bifJ (J := fun b => F68_J7 K b c) (f := fun b => fP7 b c) (K := KI K) (fun _ h => F68_J7_is hp h))
theorem F68_J9_is {t : Bool} {c : Chg} {K : Kn} (hp : chP c) (h : KI K (fP9 t c)) : F68_J9 K t c := by
 unfold F68_J9
 revert h
 unfold fP9
 refine bifT (K := KI K) id fun h => ?_
 show bif decide (c.kind = 2) then _ else _
 cases e : decide (c.kind = 2)
 . rw [e] at h; exact F68_J8_is hp h
 . rw [e] at h; exact ⟨Nat.le_trans (chP_parts hp).1 (by omega), F68_J8_is hp h⟩
theorem F68_J10_is {t : Bool} {c : Chg} {K : Kn} (hp : chP c) (hk : t = false -> kindP c) (h : KI K (fP10 t c)) : F68_J10 K t c := by
 unfold F68_J10
 unfold fP10 at h
 cases t
 rotate_left
 . exact h
 rw [cond_false] at h ⊢
 refine ⟨hk rfl, ?_⟩
 revert h
 refine bifT (K := KI K) id fun h => ?_
 show bif decide (c.kind = 1) then _ else _
 cases e : decide (c.kind = 1)
 . rw [e] at h; exact F68_J9_is hp h
 . rw [e] at h
   exact bifJ (J := fun b => F68_J9 K b c) (f := fun b => fP9 b c) (K := KI K) (fun _ h => F68_J9_is hp h) h
theorem F68_is {c : Chg} {K : Kn} (hp : chP c) (h : KI K (fieldsP c)) : F68 (c, ()) K := by
 unfold F68
 unfold fieldsP at h
 show bif decide (c.kind < 1) then _ else _
 cases e : decide (c.kind < 1)
 . rw [e] at h
   exact F68_J10_is hp (fun e2 => ⟨by have : ¬ c.kind < 1 := of_decide_eq_false e; show 1 <= c.kind; omega, by have : ¬ 7 < c.kind := of_decide_eq_false e2; show c.kind <= 7; omega⟩) h
 . rw [e] at h
   exact F68_J10_is hp (fun e2 => by cases e2) h
def sp68 : Sp := ⟨S68, L68, fun g => chP g.1, fun g => .int .i64 (fieldsP g.1), fun _ => none⟩
theorem sp68_ok : sp68.Ok Tryz.prog 68 true :=
 ⟨fun g K X hp h => F68_ok g K X (F68_is hp h), fun _ _ _ => rfl, fun _ => rfl, fun _ _ => ⟨rfl, rfl⟩⟩
set_option maxRecDepth 100000
theorem sx_eta (x : Sx) : (⟨x.isList, x.atom, x.list⟩ : Sx) = x := by cases x; rfl
def digX (d : Dig) : Sx := atomX (bif digEq d dz then ⟨#[]⟩ else dstr d)
def idX (x : Idn) : Sx := listX [digX x.patch, numX x.n]
def overX (l : List Idn) : Sx := listX (l.map idX)
def linesX (l : List ByteArray) : Sx := listX (l.map atomX)
def fldX (k : Nat) (c : Chg) : List Sx := match k with
 | 1 => [numX c.typ]
 | 2 => [idX c.file, idX c.parent, atomX c.name, overX c.over]
 | 3 => [idX c.file, numX c.mode, overX c.over]
 | 4 => [idX c.file, atomX c.data, overX c.over]
 | 5 => [idX c.file, idX c.after, idX c.before, linesX c.lines]
 | 6 => [idX c.file, idX c.after, idX c.before, overX c.over]
 | 7 => [overX c.over]
 | _ => []
def chX (c : Chg) : Sx := listX (numX c.kind :: fldX c.kind.toNat c)
def quiltS : ByteArray := ⟨#[113, 117, 105, 108, 116, 49]⟩
def patX (a m : ByteArray) (t : Int) (D : List Sx) (cs : List Chg) : Sx := listX [atomX quiltS, atomX a, atomX m, numX t, listX D, listX (cs.map chX)]
def tblL : List (Int × ByteArray × Nat) := [(1, ⟨#[]⟩, 160), (2, ⟨#[]⟩, 161), (3, ⟨#[]⟩, 164), (4, ⟨#[]⟩, 165), (5, ⟨#[]⟩, 166), (6, ⟨#[]⟩, 168), (7, ⟨#[]⟩, 169)]
def chW (c : Chg) : Prop := intP c.typ /\ intP c.mode /\ intP c.file.n /\ intP c.parent.n /\ intP c.after.n /\ intP c.before.n /\ ∀ x ∈ c.over, intP x.n
def ovP (l : List Idn) : Prop := l.length <= 4194304 /\ ∀ x ∈ l, intP x.n
theorem ovP_of {c : Chg} (hp : chP c) (hw : chW c) : ovP c.over := ⟨(chP_parts hp).2.2.2.2, hw.2.2.2.2.2.2⟩
theorem bk_digX (d : Dig) : bkS (digX d) <= 35 := by
 unfold digX
 rw [bkS_atom]
 cases digEq d dz
 . rw [cond_false, dstr_size]; omega
 . have : (⟨#[]⟩ : ByteArray).size = 0 := rfl
   rw [cond_true, this]; omega
theorem bk_idX {x : Idn} (h : intP x.n) : bkS (idX x) <= 62 := by
 have h1 := bk_digX x.patch
 have h2 := bkS_num h
 unfold idX
 rw [bkS_list]
 simp only [bkSs]
 omega
theorem bkSs_map {α : Type} (f : α -> Sx) (m : Nat) : ∀ (l : List α), (∀ x ∈ l, bkS (f x) <= m) -> bkSs (l.map f) <= m * l.length
 | [], _ => by simp [bkSs]
 | x :: l, h => by
  have h1 := h x (List.mem_cons_self ..)
  have h2 := bkSs_map f m l fun y hy => h y (List.mem_cons_of_mem _ hy)
  simp only [List.map_cons, bkSs, List.length_cons, Nat.mul_succ]
  omega
theorem bk_overX {l : List Idn} (h : ovP l) : bkS (overX l) <= 62 * l.length + 3 := by
 unfold overX
 rw [bkS_list]
 have := bkSs_map idX 62 l fun x hx => bk_idX (h.2 x hx)
 omega
theorem bk_linesX (l : List ByteArray) : bkS (linesX l) <= 3 * (l.map bk_str).sum + 3 := by
 unfold linesX
 rw [bkS_list]
 have : bkSs (l.map atomX) <= 3 * (l.map bk_str).sum := by
  induction l with
  | nil => simp [bkSs]
  | cons s l ih =>
   simp only [List.map_cons, bkSs, List.sum_cons, bkS_atom, bk_str] at ih ⊢
   omega
 omega
theorem bk_chX {c : Chg} (hp : chP c) (hw : chW c) (hk : intP c.kind) : bkS (chX c) <= 5 * bk_chg c + 300 := by
 have ho := bk_overX (ovP_of hp hw)
 have hl := bk_linesX c.lines
 obtain ⟨w1, w2, w3, w4, w5, w6, w7⟩ := hw
 have e := sum_len bk_idk 33 c.over fun x _ => Nat.le_refl _
 have h3 := bk_idX w3
 have h4 := bk_idX w4
 have h5 := bk_idX w5
 have h6 := bk_idX w6
 have h1 := bkS_num w1
 have h2 := bkS_num w2
 have hk := bkS_num hk
 have hb : bk_chg c = (c.name.size + 1) + (c.data.size + 1) + ((c.lines.map bk_str).sum + 1) + ((c.over.map bk_idk).sum + 1) + 135 := rfl
 unfold chX
 rw [bkS_list]
 unfold fldX
 split <;> simp only [bkSs, bkS_atom] <;> omega
end Go.Proofs.YtbglndogddddoaaGreatDoor
namespace Go.Proofs.YtbglndogddddoaaGreatDoor
open Go.RowKit
attribute [local irreducible] dfun dround
set_option maxRecDepth 100000
def H118n : List (Nat × Hint) := []
def J118n : List (Nat × Hint) := []
abbrev S118n : List Sh := [.nil]
abbrev L118n : List Lf := []
abbrev O118n : List ObSh := []
def F118n (g : prodL L118n) (K : Kn) : Prop :=
 K (.ag [.bool true, .str (⟨#[]⟩ : ByteArray), .nil]) []
theorem F118n_eq (g : prodL L118n) (K X : Kn) : F118n g K = dfun D (gamX [] []) (isRaw []) H118n J118n 5 [.cell 2 85] (codeOf Tryz.f118) (argsT S118n L118n g) (storeT S118n O118n L118n g) (settle0 K) X 0 := by kernel_rfl
theorem F118n_ok (g : prodL L118n) (K X : Kn) (h : F118n g K) : FCalls Tryz.prog 118 (argsT S118n L118n g) (storeT S118n O118n L118n g) K X 0 :=
 FCalls.settle0 (dfun_sound (Γ := gamX [] []) (mu := isRaw []) (H := H118n) (J := J118n) D_ok (gmX gm0) gamX_det rfl Tryz.func118 (c := codeOf Tryz.f118) rfl Tryz.ntmps118 Tryz.results118 (by unfold enters; rw [Tryz.func118]; kernel_rfl) (Nat.le_of_ble_eq_true (by kernel_rfl)) (c0 := 0) (Eq.mp (F118n_eq g K X) h))
def rw118n : Raw := ⟨S118n, O118n, L118n, 0, fun g K _ => F118n g K⟩
theorem rw118n_ok : rw118n.Ok Tryz.prog 118 := fun g K X h => F118n_ok g K X h
def H121 : List (Nat × Hint) := []
def J121 : List (Nat × Hint) := []
abbrev S121 : List Sh := [.leaf]
abbrev L121 : List Lf := [.int .i64]
def F121 (g : prodL L121) (K : Kn) : Prop :=
 sp170.pre (g.1, ()) /\
 K (.ag [.bool (((intB g.1).1).isList), .str (((intB g.1).1).atom), .sl false .sexp (((intB g.1).1).list)]) []
theorem F121_eq (g : prodL L121) (K X : Kn) : F121 g K = dfun D (gamX [] [(170, false, sp170)]) (isRaw []) H121 J121 11 [.cell 2 85] (codeOf Tryz.f121) (argsT S121 L121 g) [] (settle0 K) X := by kernel_rfl
theorem F121_ok (g : prodL L121) (K X : Kn) (h : F121 g K) : FCalls Tryz.prog 121 (argsT S121 L121 g) [] K X :=
 FCalls.settle0 (dfun_sound (Γ := gamX [] [(170, false, sp170)]) (mu := isRaw []) (H := H121) (J := J121) D_ok (gamX_ok (rs := []) (l := [(170, false, sp170)]) (fun p hp => by cases hp) (by intro p hp; simp only [List.mem_cons, List.not_mem_nil, or_false] at hp; subst hp; exact sp170_ok)) gamX_det rfl Tryz.func121 (c := codeOf Tryz.f121) rfl Tryz.ntmps121 Tryz.results121 (by unfold enters; rw [Tryz.func121]; kernel_rfl) (Nat.le_of_ble_eq_true (by kernel_rfl)) (c0 := 0) (Eq.mp (F121_eq g K X) h))
def H120 : List (Nat × Hint) := []
def J120 : List (Nat × Hint) := []
abbrev S120 : List Sh := []
abbrev L120 : List Lf := []
abbrev O120 : List ObSh := []
def F120 (g : prodL L120) (K : Kn) : Prop :=
 K (.mp 0) [some (.cells [.fents false [(1, (⟨#[]⟩ : ByteArray), 160), (2, (⟨#[]⟩ : ByteArray), 161), (3, (⟨#[]⟩ : ByteArray), 164), (4, (⟨#[]⟩ : ByteArray), 165), (5, (⟨#[]⟩ : ByteArray), 166), (6, (⟨#[]⟩ : ByteArray), 168), (7, (⟨#[]⟩ : ByteArray), 169)]])]
theorem F120_eq (g : prodL L120) (K X : Kn) : F120 g K = dfun D (gamX [] []) (isRaw []) H120 J120 3 [.tmp 0] (codeOf Tryz.f120) (argsT S120 L120 g) (storeT S120 O120 L120 g) (settleD (storeT S120 O120 L120 g).length 0 K) X 0 := by kernel_rfl
theorem F120_ok (g : prodL L120) (K X : Kn) (h : F120 g K) : FCalls Tryz.prog 120 (argsT S120 L120 g) (storeT S120 O120 L120 g) K X 0 :=
 FCalls.settleD (dfun_sound (Γ := gamX [] []) (mu := isRaw []) (H := H120) (J := J120) D_ok (gmX gm0) gamX_det rfl Tryz.func120 (c := codeOf Tryz.f120) rfl Tryz.ntmps120 (rs := [.tmp 0]) Tryz.results120 (by unfold enters; rw [Tryz.func120]; kernel_rfl) (Nat.le_of_ble_eq_true (by kernel_rfl)) (X := X) (c0 := 0) (Eq.mp (F120_eq g K X) h))
def H167 : List (Nat × Hint) := [(3, ⟨[((2, []), none), ((3, []), none), ((3, [2]), some .sexp)], [(2, .pt 0 0), (3, .pt 1 0), (7, .leaf), (8, .leaf), (9, .leaf)], [.cells [.leaf, .leaf, .nil], .cells [.leaf, .leaf, .oa .sexp 2], .arr .sexp], [.sl .str, .int .i64, .int .i64, .bool, .str, .bool, .str, .sl .sexp]⟩)]
def J167 : List (Nat × Hint) := []
abbrev S167 : List Sh := [.leaf]
abbrev L167 : List Lf := [.sl .str]
def F167_B6 (K : Kn) (W6 : prodL [.sl .str, .int .i64, .int .i64, .bool, .str, .bool, .str, .sl .sexp] -> Prop) (t_5 : List ByteArray) (t2_5 t3_5 : Int) (t1_5 : Bool) (t22_5 : ByteArray) (x1_5 : Bool) (x2_5 : ByteArray) (x_5 : List Sx) : Prop :=
 bif decide (t3_5 < t2_5) then (
  At t_5 t3_5 fun u7 =>
 True /\
 Room (x_5.length + [(⟨false, u7, []⟩ : Sx)].length) 48 (
 W6 (t_5, t2_5, IntKind.i64.wrap (t3_5 + 1), t1_5, t22_5, x1_5, x2_5, x_5 ++ [(⟨false, u7, []⟩ : Sx)], ())))
 else (
  K (.ag [.bool x1_5, .str x2_5, .sl false .sexp x_5]) [])
def F167_L6 (K : Kn) (g : prodL [.sl .str, .int .i64, .int .i64, .bool, .str, .bool, .str, .sl .sexp]) : Prop :=
 LoopW (γ := prodL [.sl .str, .int .i64, .int .i64, .bool, .str, .bool, .str, .sl .sexp]) (fun V y => F167_B6 K V y.1 y.2.1 y.2.2.1 y.2.2.2.1 y.2.2.2.2.1 y.2.2.2.2.2.1 y.2.2.2.2.2.2.1 y.2.2.2.2.2.2.2.1) g
def F167 (g : prodL L167) (K : Kn) : Prop :=
 let g1 : prodL [] := (());
 F167_L6 K (g.1, (g.1.length : Int), 0, false, (⟨#[]⟩ : ByteArray), true, (⟨#[]⟩ : ByteArray), [], ())
theorem F167_eq (g : prodL L167) (K X : Kn) : F167 g K = dfun D (gamX [(118, rw118n)] [(119, false, sp119)]) (isRaw [(118, rw118n)]) H167 J167 22 [.cell 2 85] (codeOf Tryz.f167) (argsT S167 L167 g) [] (settle0 K) X := by kernel_rfl
theorem F167_ok (g : prodL L167) (K X : Kn) (h : F167 g K) : FCalls Tryz.prog 167 (argsT S167 L167 g) [] K X :=
 FCalls.settle0 (dfun_sound (Γ := gamX [(118, rw118n)] [(119, false, sp119)]) (mu := isRaw [(118, rw118n)]) (H := H167) (J := J167) D_ok (gamX_ok (rs := [(118, rw118n)]) (l := [(119, false, sp119)]) (by intro p hp; simp only [List.mem_cons, List.not_mem_nil, or_false] at hp; subst hp; exact rw118n_ok) (by intro p hp; simp only [List.mem_cons, List.not_mem_nil, or_false] at hp; subst hp; exact sp119_ok)) gamX_det rfl Tryz.func167 (c := codeOf Tryz.f167) rfl Tryz.ntmps167 Tryz.results167 (by unfold enters; rw [Tryz.func167]; kernel_rfl) (Nat.le_of_ble_eq_true (by kernel_rfl)) (c0 := 0) (Eq.mp (F167_eq g K X) h))
end Go.Proofs.YtbglndogddddoaaGreatDoor
namespace Go.Proofs.YtbglndogddddoaaGreatDoor
open Go.RowKit
set_option maxRecDepth 100000
theorem wkX {K : Kn} {b : Bool} {s : ByteArray} {f : Bool} {l : List Sx} {st : St} (h : K (.ag [.bool b, .str s, .sl false .sexp l]) st) : wkK K (.ag [.bool b, .str s, .sl f .sexp l]) st :=
 ⟨_, Weak.ag (WeakL.cons (Weak.refl _) (WeakL.cons (Weak.refl _) (WeakL.cons (Weak.sl f .sexp l) WeakL.nil))), h⟩
def sp121 : Sp := ⟨S121, L121, fun g => intP g.1, fun g => .ag (enc .sexp (numX g.1)), fun _ => none⟩
theorem sp121_ok : sp121.Ok Tryz.prog 121 false :=
 ⟨fun g K X hp h => F121_ok g K X ⟨hp, h⟩, fun _ _ _ => rfl, fun _ => rfl, fun h => (by cases h)⟩
def sp120 : Sp := ⟨S120, L120, fun _ => True, fun _ => .mp 0, fun _ => some (.cells [.fents false tblL])⟩
theorem sp120_ok : sp120.Ok Tryz.prog 120 false :=
 ⟨fun g K X _ h => F120_ok g K X h, fun _ _ _ => rfl, fun _ => rfl, fun h => (by cases h)⟩
theorem F167_is {l : List ByteArray} {K : Kn} (hl : l.length <= 4194304) (h : K (.ag (enc .sexp (linesX l))) []) : F167 (l, ()) K := by
 unfold F167
 refine LoopW.map l atomX (fun n out => (l, (l.length : Int), n, false, ⟨#[]⟩, true, ⟨#[]⟩, out, ())) (by omega) rfl (fun W n hn out ho hW => ?_) fun W => ?_
 . show F167_B6 K W l l.length n false ⟨#[]⟩ true ⟨#[]⟩ out
   unfold F167_B6
   rw [lt_true hn, cond_true]
   exact At_of hn ⟨trivial, by simp only [List.length_singleton, ho]; omega, hW⟩
 . show F167_B6 K W l l.length l.length false ⟨#[]⟩ true ⟨#[]⟩ (l.map atomX)
   unfold F167_B6
   rw [lt_false, cond_false]; exact h
def sp167 : Sp := ⟨S167, L167, fun g => g.1.length <= 4194304, fun g => .ag (enc .sexp (linesX g.1)), fun _ => none⟩
theorem sp167_ok : sp167.Ok Tryz.prog 167 false :=
 ⟨fun g K X hp h => F167_ok g K X (F167_is hp h), fun _ _ _ => rfl, fun _ => rfl, fun h => (by cases h)⟩
end Go.Proofs.YtbglndogddddoaaGreatDoor
namespace Go.Proofs.YtbglndogddddoaaGreatDoor
open Go.RowKit
attribute [local irreducible] dfun dround
set_option maxRecDepth 100000
def H162 : List (Nat × Hint) := []
def J162 : List (Nat × Hint) := []
abbrev S162 : List Sh := [.leaf]
abbrev L162 : List Lf := [.el .idk]
def F162 (g : prodL L162) (K : Kn) : Prop :=
 True /\
 bif ownB g.1 then (
  True /\
  sp121.pre (g.1.n, ()) /\
  let g1 : prodL [.sl .sexp] := ([(⟨false, (⟨#[]⟩ : ByteArray), []⟩ : Sx), (⟨(numX g.1.n).isList, (numX g.1.n).atom, (numX g.1.n).list⟩ : Sx)], ());
  K (.ag [.bool true, .str (⟨#[]⟩ : ByteArray), .sl true .sexp g1.1]) [])
 else (
  True /\
 sp121.pre (g.1.n, ()) /\
 let g2 : prodL [.sl .sexp] := ([(⟨false, dstr g.1.patch, []⟩ : Sx), (⟨(numX g.1.n).isList, (numX g.1.n).atom, (numX g.1.n).list⟩ : Sx)], ());
 K (.ag [.bool true, .str (⟨#[]⟩ : ByteArray), .sl true .sexp g2.1]) [])
theorem F162_eq (g : prodL L162) (K X : Kn) : F162 g K = dfun D (gamX [(118, rw118)] [(47, true, sp47), (119, false, sp119), (121, false, sp121)]) (isRaw [(118, rw118)]) H162 J162 20 [.cell 2 85] (codeOf Tryz.f162) (argsT S162 L162 g) [] (settle0 K) X := by kernel_rfl
theorem F162_ok (g : prodL L162) (K X : Kn) (h : F162 g K) : FCalls Tryz.prog 162 (argsT S162 L162 g) [] K X :=
 FCalls.settle0 (dfun_sound (Γ := gamX [(118, rw118)] [(47, true, sp47), (119, false, sp119), (121, false, sp121)]) (mu := isRaw [(118, rw118)]) (H := H162) (J := J162) D_ok (gamX_ok (rs := [(118, rw118)]) (l := [(47, true, sp47), (119, false, sp119), (121, false, sp121)]) (by intro p hp; simp only [List.mem_cons, List.not_mem_nil, or_false] at hp; subst hp; exact rw118_ok) (by intro p hp; simp only [List.mem_cons, List.not_mem_nil, or_false] at hp; rcases hp with rfl | rfl | rfl <;> first | exact sp47_ok | exact sp119_ok | exact sp121_ok)) gamX_det rfl Tryz.func162 (c := codeOf Tryz.f162) rfl Tryz.ntmps162 Tryz.results162 (by unfold enters; rw [Tryz.func162]; kernel_rfl) (Nat.le_of_ble_eq_true (by kernel_rfl)) (c0 := 0) (Eq.mp (F162_eq g K X) h))
end Go.Proofs.YtbglndogddddoaaGreatDoor
namespace Go.Proofs.YtbglndogddddoaaGreatDoor
open Go.RowKit
set_option maxRecDepth 100000
theorem F162_is {x : Idn} {K : Kn} (hp : intP x.n) (h : K (.ag (enc .sexp (idX x))) []) : F162 (x, ()) (wkK K) := by
 unfold F162
 simp only [sx_eta]
 refine ⟨trivial, ?_⟩
 unfold idX digX at h
 unfold ownB
 cases c : digEq x.patch dz
 . rw [c] at h; exact ⟨trivial, hp, wkX h⟩
 . rw [c] at h; exact ⟨trivial, hp, wkX h⟩
def sp162 : Sp := ⟨S162, L162, fun g => intP g.1.n, fun g => .ag (enc .sexp (idX g.1)), fun _ => none⟩
theorem sp162_ok : sp162.Ok Tryz.prog 162 false :=
 ⟨fun g K X hp h => FCalls.weak (F162_ok g (wkK K) X (F162_is hp h)), fun _ _ _ => rfl, fun _ => rfl, fun h => (by cases h)⟩
end Go.Proofs.YtbglndogddddoaaGreatDoor
namespace Go.Proofs.YtbglndogddddoaaGreatDoor
open Go.RowKit
attribute [local irreducible] dfun dround
set_option maxRecDepth 100000
def H163 : List (Nat × Hint) := [(3, ⟨[((2, []), none), ((3, []), none), ((3, [2]), some .sexp)], [(2, .pt 0 0), (3, .pt 1 0), (7, .leaf), (8, .leaf), (9, .leaf)], [.cells [.leaf, .leaf, .nil], .cells [.leaf, .leaf, .oa .sexp 2], .arr .sexp], [.sl .idk, .int .i64, .int .i64, .bool, .str, .bool, .str, .sl .sexp]⟩)]
def J163 : List (Nat × Hint) := []
abbrev S163 : List Sh := [.leaf]
abbrev L163 : List Lf := [.sl .idk]
def F163_B6 (K : Kn) (W6 : prodL [.sl .idk, .int .i64, .int .i64, .bool, .str, .bool, .str, .sl .sexp] -> Prop) (t_5 : List Idn) (t2_5 t3_5 : Int) (t1_5 : Bool) (t22_5 : ByteArray) (x1_5 : Bool) (x2_5 : ByteArray) (x_5 : List Sx) : Prop :=
 bif decide (t3_5 < t2_5) then (
  At t_5 t3_5 fun u7 =>
 sp162.pre (u7, ()) /\
 Room (x_5.length + [(⟨(idX u7).isList, (idX u7).atom, (idX u7).list⟩ : Sx)].length) 48 (
 W6 (t_5, t2_5, IntKind.i64.wrap (t3_5 + 1), t1_5, t22_5, x1_5, x2_5, x_5 ++ [(⟨(idX u7).isList, (idX u7).atom, (idX u7).list⟩ : Sx)], ())))
 else (
  K (.ag [.bool x1_5, .str x2_5, .sl false .sexp x_5]) [])
def F163_L6 (K : Kn) (g : prodL [.sl .idk, .int .i64, .int .i64, .bool, .str, .bool, .str, .sl .sexp]) : Prop :=
 LoopW (γ := prodL [.sl .idk, .int .i64, .int .i64, .bool, .str, .bool, .str, .sl .sexp]) (fun V y => F163_B6 K V y.1 y.2.1 y.2.2.1 y.2.2.2.1 y.2.2.2.2.1 y.2.2.2.2.2.1 y.2.2.2.2.2.2.1 y.2.2.2.2.2.2.2.1) g
def F163 (g : prodL L163) (K : Kn) : Prop :=
 let g1 : prodL [] := (());
 F163_L6 K (g.1, (g.1.length : Int), 0, false, (⟨#[]⟩ : ByteArray), true, (⟨#[]⟩ : ByteArray), [], ())
theorem F163_eq (g : prodL L163) (K X : Kn) : F163 g K = dfun D (gamX [(118, rw118n)] [(162, false, sp162)]) (isRaw [(118, rw118n)]) H163 J163 22 [.cell 2 85] (codeOf Tryz.f163) (argsT S163 L163 g) [] (settle0 K) X := by kernel_rfl
theorem F163_ok (g : prodL L163) (K X : Kn) (h : F163 g K) : FCalls Tryz.prog 163 (argsT S163 L163 g) [] K X :=
 FCalls.settle0 (dfun_sound (Γ := gamX [(118, rw118n)] [(162, false, sp162)]) (mu := isRaw [(118, rw118n)]) (H := H163) (J := J163) D_ok (gamX_ok (rs := [(118, rw118n)]) (l := [(162, false, sp162)]) (by intro p hp; simp only [List.mem_cons, List.not_mem_nil, or_false] at hp; subst hp; exact rw118n_ok) (by intro p hp; simp only [List.mem_cons, List.not_mem_nil, or_false] at hp; subst hp; exact sp162_ok)) gamX_det rfl Tryz.func163 (c := codeOf Tryz.f163) rfl Tryz.ntmps163 Tryz.results163 (by unfold enters; rw [Tryz.func163]; kernel_rfl) (Nat.le_of_ble_eq_true (by kernel_rfl)) (c0 := 0) (Eq.mp (F163_eq g K X) h))
end Go.Proofs.YtbglndogddddoaaGreatDoor
namespace Go.Proofs.YtbglndogddddoaaGreatDoor
open Go.RowKit
set_option maxRecDepth 100000
theorem F163_is {l : List Idn} {K : Kn} (hp : ovP l) (h : K (.ag (enc .sexp (overX l))) []) : F163 (l, ()) K := by
 obtain ⟨hl, hi⟩ := hp
 unfold F163
 refine LoopW.map l idX (fun n out => (l, (l.length : Int), n, false, ⟨#[]⟩, true, ⟨#[]⟩, out, ())) (by omega) rfl (fun W n hn out ho hW => ?_) fun W => ?_
 . show F163_B6 K W l l.length n false ⟨#[]⟩ true ⟨#[]⟩ out
   unfold F163_B6
   rw [lt_true hn, cond_true]
   simp only [sx_eta]
   exact At_of hn ⟨hi _ (List.getElem_mem _), by simp only [List.length_singleton, ho]; omega, hW⟩
 . show F163_B6 K W l l.length l.length false ⟨#[]⟩ true ⟨#[]⟩ (l.map idX)
   unfold F163_B6
   rw [lt_false, cond_false]; exact h
def sp163 : Sp := ⟨S163, L163, fun g => ovP g.1, fun g => .ag (enc .sexp (overX g.1)), fun _ => none⟩
theorem sp163_ok : sp163.Ok Tryz.prog 163 false :=
 ⟨fun g K X hp h => F163_ok g K X (F163_is hp h), fun _ _ _ => rfl, fun _ => rfl, fun h => (by cases h)⟩
end Go.Proofs.YtbglndogddddoaaGreatDoor
namespace Go.Proofs.YtbglndogddddoaaGreatDoor
open Go.RowKit
attribute [local irreducible] dfun dround
set_option maxRecDepth 100000
def H160 : List (Nat × Hint) := []
def J160 : List (Nat × Hint) := []
abbrev S160 : List Sh := [.leaf]
abbrev L160 : List Lf := [.el .chg]
def F160 (g : prodL L160) (K : Kn) : Prop :=
 sp121.pre (g.1.typ, ()) /\
 K (.sl true .sexp [(⟨(numX g.1.typ).isList, (numX g.1.typ).atom, (numX g.1.typ).list⟩ : Sx)]) []
theorem F160_eq (g : prodL L160) (K X : Kn) : F160 g K = dfun D (gamX [] [(121, false, sp121)]) (isRaw []) H160 J160 7 [.tmp 2] (codeOf Tryz.f160) (argsT S160 L160 g) [] (settle0 K) X := by kernel_rfl
theorem F160_ok (g : prodL L160) (K X : Kn) (h : F160 g K) : FCalls Tryz.prog 160 (argsT S160 L160 g) [] K X :=
 FCalls.settle0 (dfun_sound (Γ := gamX [] [(121, false, sp121)]) (mu := isRaw []) (H := H160) (J := J160) D_ok (gamX_ok (rs := []) (l := [(121, false, sp121)]) (fun p hp => by cases hp) (by intro p hp; simp only [List.mem_cons, List.not_mem_nil, or_false] at hp; subst hp; exact sp121_ok)) gamX_det rfl Tryz.func160 (c := codeOf Tryz.f160) rfl Tryz.ntmps160 Tryz.results160 (by unfold enters; rw [Tryz.func160]; kernel_rfl) (Nat.le_of_ble_eq_true (by kernel_rfl)) (c0 := 0) (Eq.mp (F160_eq g K X) h))
def H161 : List (Nat × Hint) := []
def J161 : List (Nat × Hint) := []
abbrev S161 : List Sh := [.leaf]
abbrev L161 : List Lf := [.el .chg]
def F161 (g : prodL L161) (K : Kn) : Prop :=
 sp162.pre (g.1.file, ()) /\
 sp162.pre (g.1.parent, ()) /\
 True /\
 sp163.pre (g.1.over, ()) /\
 K (.sl true .sexp [(⟨(idX g.1.file).isList, (idX g.1.file).atom, (idX g.1.file).list⟩ : Sx), (⟨(idX g.1.parent).isList, (idX g.1.parent).atom, (idX g.1.parent).list⟩ : Sx), (⟨false, g.1.name, []⟩ : Sx), (⟨(overX g.1.over).isList, (overX g.1.over).atom, (overX g.1.over).list⟩ : Sx)]) []
theorem F161_eq (g : prodL L161) (K X : Kn) : F161 g K = dfun D (gamX [] [(119, false, sp119), (162, false, sp162), (163, false, sp163)]) (isRaw []) H161 J161 16 [.tmp 2] (codeOf Tryz.f161) (argsT S161 L161 g) [] (settle0 K) X := by kernel_rfl
theorem F161_ok (g : prodL L161) (K X : Kn) (h : F161 g K) : FCalls Tryz.prog 161 (argsT S161 L161 g) [] K X :=
 FCalls.settle0 (dfun_sound D_ok (gmX (gmc sp119_ok (gmc sp162_ok (gmc sp163_ok gm0)))) gamX_det rfl Tryz.func161 (c := codeOf Tryz.f161) rfl Tryz.ntmps161 Tryz.results161 (by unfold enters; rw [Tryz.func161]; kernel_rfl) (Nat.le_of_ble_eq_true (by kernel_rfl)) (c0 := 0) (Eq.mp (F161_eq g K X) h))
def H164 : List (Nat × Hint) := []
def J164 : List (Nat × Hint) := []
abbrev S164 : List Sh := [.leaf]
abbrev L164 : List Lf := [.el .chg]
def F164 (g : prodL L164) (K : Kn) : Prop :=
 sp162.pre (g.1.file, ()) /\
 sp121.pre (g.1.mode, ()) /\
 sp163.pre (g.1.over, ()) /\
 K (.sl true .sexp [(⟨(idX g.1.file).isList, (idX g.1.file).atom, (idX g.1.file).list⟩ : Sx), (⟨(numX g.1.mode).isList, (numX g.1.mode).atom, (numX g.1.mode).list⟩ : Sx), (⟨(overX g.1.over).isList, (overX g.1.over).atom, (overX g.1.over).list⟩ : Sx)]) []
theorem F164_eq (g : prodL L164) (K X : Kn) : F164 g K = dfun D (gamX [] [(121, false, sp121), (162, false, sp162), (163, false, sp163)]) (isRaw []) H164 J164 13 [.tmp 2] (codeOf Tryz.f164) (argsT S164 L164 g) [] (settle0 K) X := by kernel_rfl
theorem F164_ok (g : prodL L164) (K X : Kn) (h : F164 g K) : FCalls Tryz.prog 164 (argsT S164 L164 g) [] K X :=
 FCalls.settle0 (dfun_sound D_ok (gmX (gmc sp121_ok (gmc sp162_ok (gmc sp163_ok gm0)))) gamX_det rfl Tryz.func164 (c := codeOf Tryz.f164) rfl Tryz.ntmps164 Tryz.results164 (by unfold enters; rw [Tryz.func164]; kernel_rfl) (Nat.le_of_ble_eq_true (by kernel_rfl)) (c0 := 0) (Eq.mp (F164_eq g K X) h))
def H165 : List (Nat × Hint) := []
def J165 : List (Nat × Hint) := []
abbrev S165 : List Sh := [.leaf]
abbrev L165 : List Lf := [.el .chg]
def F165 (g : prodL L165) (K : Kn) : Prop :=
 sp162.pre (g.1.file, ()) /\
 True /\
 sp163.pre (g.1.over, ()) /\
 K (.sl true .sexp [(⟨(idX g.1.file).isList, (idX g.1.file).atom, (idX g.1.file).list⟩ : Sx), (⟨false, g.1.data, []⟩ : Sx), (⟨(overX g.1.over).isList, (overX g.1.over).atom, (overX g.1.over).list⟩ : Sx)]) []
theorem F165_eq (g : prodL L165) (K X : Kn) : F165 g K = dfun D (gamX [] [(119, false, sp119), (162, false, sp162), (163, false, sp163)]) (isRaw []) H165 J165 13 [.tmp 2] (codeOf Tryz.f165) (argsT S165 L165 g) [] (settle0 K) X := by kernel_rfl
theorem F165_ok (g : prodL L165) (K X : Kn) (h : F165 g K) : FCalls Tryz.prog 165 (argsT S165 L165 g) [] K X :=
 FCalls.settle0 (dfun_sound D_ok (gmX (gmc sp119_ok (gmc sp162_ok (gmc sp163_ok gm0)))) gamX_det rfl Tryz.func165 (c := codeOf Tryz.f165) rfl Tryz.ntmps165 Tryz.results165 (by unfold enters; rw [Tryz.func165]; kernel_rfl) (Nat.le_of_ble_eq_true (by kernel_rfl)) (c0 := 0) (Eq.mp (F165_eq g K X) h))
def H166 : List (Nat × Hint) := []
def J166 : List (Nat × Hint) := []
abbrev S166 : List Sh := [.leaf]
abbrev L166 : List Lf := [.el .chg]
def F166 (g : prodL L166) (K : Kn) : Prop :=
 sp162.pre (g.1.file, ()) /\
 sp162.pre (g.1.after, ()) /\
 sp162.pre (g.1.before, ()) /\
 sp167.pre (g.1.lines, ()) /\
 K (.sl true .sexp [(⟨(idX g.1.file).isList, (idX g.1.file).atom, (idX g.1.file).list⟩ : Sx), (⟨(idX g.1.after).isList, (idX g.1.after).atom, (idX g.1.after).list⟩ : Sx), (⟨(idX g.1.before).isList, (idX g.1.before).atom, (idX g.1.before).list⟩ : Sx), (⟨(linesX g.1.lines).isList, (linesX g.1.lines).atom, (linesX g.1.lines).list⟩ : Sx)]) []
theorem F166_eq (g : prodL L166) (K X : Kn) : F166 g K = dfun D (gamX [] [(162, false, sp162), (167, false, sp167)]) (isRaw []) H166 J166 16 [.tmp 2] (codeOf Tryz.f166) (argsT S166 L166 g) [] (settle0 K) X := by kernel_rfl
theorem F166_ok (g : prodL L166) (K X : Kn) (h : F166 g K) : FCalls Tryz.prog 166 (argsT S166 L166 g) [] K X :=
 FCalls.settle0 (dfun_sound D_ok (gmX (gmc sp162_ok (gmc sp167_ok gm0))) gamX_det rfl Tryz.func166 (c := codeOf Tryz.f166) rfl Tryz.ntmps166 Tryz.results166 (by unfold enters; rw [Tryz.func166]; kernel_rfl) (Nat.le_of_ble_eq_true (by kernel_rfl)) (c0 := 0) (Eq.mp (F166_eq g K X) h))
def H168 : List (Nat × Hint) := []
def J168 : List (Nat × Hint) := []
abbrev S168 : List Sh := [.leaf]
abbrev L168 : List Lf := [.el .chg]
def F168 (g : prodL L168) (K : Kn) : Prop :=
 sp162.pre (g.1.file, ()) /\
 sp162.pre (g.1.after, ()) /\
 sp162.pre (g.1.before, ()) /\
 sp163.pre (g.1.over, ()) /\
 K (.sl true .sexp [(⟨(idX g.1.file).isList, (idX g.1.file).atom, (idX g.1.file).list⟩ : Sx), (⟨(idX g.1.after).isList, (idX g.1.after).atom, (idX g.1.after).list⟩ : Sx), (⟨(idX g.1.before).isList, (idX g.1.before).atom, (idX g.1.before).list⟩ : Sx), (⟨(overX g.1.over).isList, (overX g.1.over).atom, (overX g.1.over).list⟩ : Sx)]) []
theorem F168_eq (g : prodL L168) (K X : Kn) : F168 g K = dfun D (gamX [] [(162, false, sp162), (163, false, sp163)]) (isRaw []) H168 J168 16 [.tmp 2] (codeOf Tryz.f168) (argsT S168 L168 g) [] (settle0 K) X := by kernel_rfl
theorem F168_ok (g : prodL L168) (K X : Kn) (h : F168 g K) : FCalls Tryz.prog 168 (argsT S168 L168 g) [] K X :=
 FCalls.settle0 (dfun_sound D_ok (gmX (gmc sp162_ok (gmc sp163_ok gm0))) gamX_det rfl Tryz.func168 (c := codeOf Tryz.f168) rfl Tryz.ntmps168 Tryz.results168 (by unfold enters; rw [Tryz.func168]; kernel_rfl) (Nat.le_of_ble_eq_true (by kernel_rfl)) (c0 := 0) (Eq.mp (F168_eq g K X) h))
def H169 : List (Nat × Hint) := []
def J169 : List (Nat × Hint) := []
abbrev S169 : List Sh := [.leaf]
abbrev L169 : List Lf := [.el .chg]
def F169 (g : prodL L169) (K : Kn) : Prop :=
 sp163.pre (g.1.over, ()) /\
 K (.sl true .sexp [(⟨(overX g.1.over).isList, (overX g.1.over).atom, (overX g.1.over).list⟩ : Sx)]) []
theorem F169_eq (g : prodL L169) (K X : Kn) : F169 g K = dfun D (gamX [] [(163, false, sp163)]) (isRaw []) H169 J169 7 [.tmp 2] (codeOf Tryz.f169) (argsT S169 L169 g) [] (settle0 K) X := by kernel_rfl
theorem F169_ok (g : prodL L169) (K X : Kn) (h : F169 g K) : FCalls Tryz.prog 169 (argsT S169 L169 g) [] K X :=
 FCalls.settle0 (dfun_sound (Γ := gamX [] [(163, false, sp163)]) (mu := isRaw []) (H := H169) (J := J169) D_ok (gamX_ok (rs := []) (l := [(163, false, sp163)]) (fun p hp => by cases hp) (by intro p hp; simp only [List.mem_cons, List.not_mem_nil, or_false] at hp; subst hp; exact sp163_ok)) gamX_det rfl Tryz.func169 (c := codeOf Tryz.f169) rfl Tryz.ntmps169 Tryz.results169 (by unfold enters; rw [Tryz.func169]; kernel_rfl) (Nat.le_of_ble_eq_true (by kernel_rfl)) (c0 := 0) (Eq.mp (F169_eq g K X) h))
end Go.Proofs.YtbglndogddddoaaGreatDoor
namespace Go.Proofs.YtbglndogddddoaaGreatDoor
open Go.RowKit
set_option maxRecDepth 100000
def sp160 : Sp := ⟨S160, L160, fun g => chP g.1 /\ chW g.1, fun g => .sl false .sexp (fldX 1 g.1), fun _ => none⟩
theorem sp160_ok : sp160.Ok Tryz.prog 160 false :=
 ⟨fun g K X hp h => FCalls.weak (F160_ok g (wkK K) X (by obtain ⟨hp, w1, w2, w3, w4, w5, w6, w7⟩ := hp; unfold F160; simp only [sx_eta]; exact ⟨w1, wkK.sl h⟩)), fun _ _ _ => rfl, fun _ => rfl, fun h => (by cases h)⟩
def sp161 : Sp := ⟨S161, L161, fun g => chP g.1 /\ chW g.1, fun g => .sl false .sexp (fldX 2 g.1), fun _ => none⟩
theorem sp161_ok : sp161.Ok Tryz.prog 161 false :=
 ⟨fun g K X hp h => FCalls.weak (F161_ok g (wkK K) X (by have ho := ovP_of hp.1 hp.2; obtain ⟨hp, w1, w2, w3, w4, w5, w6, w7⟩ := hp; unfold F161; simp only [sx_eta]; exact ⟨w3, w4, trivial, ho, wkK.sl h⟩)), fun _ _ _ => rfl, fun _ => rfl, fun h => (by cases h)⟩
def sp164 : Sp := ⟨S164, L164, fun g => chP g.1 /\ chW g.1, fun g => .sl false .sexp (fldX 3 g.1), fun _ => none⟩
theorem sp164_ok : sp164.Ok Tryz.prog 164 false :=
 ⟨fun g K X hp h => FCalls.weak (F164_ok g (wkK K) X (by have ho := ovP_of hp.1 hp.2; obtain ⟨hp, w1, w2, w3, w4, w5, w6, w7⟩ := hp; unfold F164; simp only [sx_eta]; exact ⟨w3, w2, ho, wkK.sl h⟩)), fun _ _ _ => rfl, fun _ => rfl, fun h => (by cases h)⟩
def sp165 : Sp := ⟨S165, L165, fun g => chP g.1 /\ chW g.1, fun g => .sl false .sexp (fldX 4 g.1), fun _ => none⟩
theorem sp165_ok : sp165.Ok Tryz.prog 165 false :=
 ⟨fun g K X hp h => FCalls.weak (F165_ok g (wkK K) X (by have ho := ovP_of hp.1 hp.2; obtain ⟨hp, w1, w2, w3, w4, w5, w6, w7⟩ := hp; unfold F165; simp only [sx_eta]; exact ⟨w3, trivial, ho, wkK.sl h⟩)), fun _ _ _ => rfl, fun _ => rfl, fun h => (by cases h)⟩
def sp166 : Sp := ⟨S166, L166, fun g => chP g.1 /\ chW g.1, fun g => .sl false .sexp (fldX 5 g.1), fun _ => none⟩
theorem sp166_ok : sp166.Ok Tryz.prog 166 false :=
 ⟨fun g K X hp h => FCalls.weak (F166_ok g (wkK K) X (by have hl := (chP_parts hp.1).2.2.1; obtain ⟨hp, w1, w2, w3, w4, w5, w6, w7⟩ := hp; unfold F166; simp only [sx_eta]; exact ⟨w3, w5, w6, hl, wkK.sl h⟩)), fun _ _ _ => rfl, fun _ => rfl, fun h => (by cases h)⟩
def sp168 : Sp := ⟨S168, L168, fun g => chP g.1 /\ chW g.1, fun g => .sl false .sexp (fldX 6 g.1), fun _ => none⟩
theorem sp168_ok : sp168.Ok Tryz.prog 168 false :=
 ⟨fun g K X hp h => FCalls.weak (F168_ok g (wkK K) X (by have ho := ovP_of hp.1 hp.2; obtain ⟨hp, w1, w2, w3, w4, w5, w6, w7⟩ := hp; unfold F168; simp only [sx_eta]; exact ⟨w3, w5, w6, ho, wkK.sl h⟩)), fun _ _ _ => rfl, fun _ => rfl, fun h => (by cases h)⟩
def sp169 : Sp := ⟨S169, L169, fun g => chP g.1 /\ chW g.1, fun g => .sl false .sexp (fldX 7 g.1), fun _ => none⟩
theorem sp169_ok : sp169.Ok Tryz.prog 169 false :=
 ⟨fun g K X hp h => FCalls.weak (F169_ok g (wkK K) X (by have ho := ovP_of hp.1 hp.2; unfold F169; simp only [sx_eta]; exact ⟨ho, wkK.sl h⟩)), fun _ _ _ => rfl, fun _ => rfl, fun h => (by cases h)⟩
end Go.Proofs.YtbglndogddddoaaGreatDoor
namespace Go.Proofs.YtbglndogddddoaaGreatDoor
open Go.RowKit
attribute [local irreducible] dfun dround
set_option maxRecDepth 100000
def H70 : List (Nat × Hint) := [(3, ⟨[((1, []), none), ((4, []), none), ((5, []), none), ((4, [2]), some .sexp)], [(1, .pt 0 0), (4, .pt 1 0), (5, .pt 2 0), (15, .leaf), (16, .leaf), (17, .leaf)], [.cells [.leaf, .leaf, .leaf, .leaf, .leaf], .cells [.leaf, .leaf, .oa .sexp 3], .cells [.leaf, .leaf, .nil], .arr .sexp], [.sl .dig, .int .i64, .int .i64, .str, .str, .int .i64, .sl .dig, .sl .chg, .bool, .str, .bool, .str, .sl .sexp]⟩), (9, ⟨[((1, []), none), ((4, []), none), ((5, []), none), ((8, []), none), ((4, [2]), none), ((5, [2]), some .sexp)], [(1, .pt 0 0), (4, .pt 1 0), (5, .pt 2 0), (8, .mp 3), (32, .leaf), (33, .leaf), (34, .leaf)], [.cells [.leaf, .leaf, .leaf, .leaf, .leaf], .cells [.leaf, .leaf, .oa .sexp 4], .cells [.leaf, .leaf, .oa .sexp 5], .cells [.fe [(1, 160), (2, 161), (3, 164), (4, 165), (5, 166), (6, 168), (7, 169)]], .arr .sexp, .arr .sexp], [.sl .chg, .int .i64, .int .i64, .str, .str, .int .i64, .sl .dig, .sl .chg, .bool, .str, .bool, .str, .sl .sexp, .sl .sexp]⟩)]
def J70 : List (Nat × Hint) := [(13, ⟨[((1, []), none), ((4, []), none), ((5, []), none), ((8, []), none), ((11, []), none), ((4, [2]), none), ((5, [2]), none)], [(1, .pt 0 0), (4, .pt 1 0), (5, .pt 2 0), (8, .mp 3), (11, .pt 4 0), (32, .leaf), (33, .leaf), (34, .leaf)], [.cells [.leaf, .leaf, .leaf, .leaf, .leaf], .cells [.leaf, .leaf, .oa .sexp 5], .cells [.leaf, .leaf, .oa .sexp 6], .cells [.fe [(1, 160), (2, 161), (3, 164), (4, 165), (5, 166), (6, 168), (7, 169)]], .cells [.leaf, .leaf, .leaf], .arr .sexp, .arr .sexp], [.sl .chg, .int .i64, .int .i64, .str, .str, .int .i64, .sl .dig, .sl .chg, .bool, .str, .bool, .str, .bool, .str, .sl .sexp, .sl .sexp, .sl .sexp]⟩), (15, ⟨[((1, []), none), ((4, []), none), ((5, []), none)], [(1, .pt 0 0), (4, .pt 1 0), (5, .pt 2 0)], [.cells [.leaf, .leaf, .leaf, .leaf, .leaf], .cells [.leaf, .leaf, .leaf], .cells [.leaf, .leaf, .leaf]], [.str, .str, .int .i64, .sl .dig, .sl .chg, .bool, .str, .sl .sexp, .bool, .str, .sl .sexp]⟩)]
abbrev S70 : List Sh := [.ag [.leaf, .leaf, .leaf, .leaf, .leaf]]
abbrev L70 : List Lf := [.str, .str, .int .i64, .sl .dig, .sl .chg]
def F70_J23 (K : Kn) (p1_21 p2_21 : ByteArray) (p3_21 : Int) (p4_21 : List Dig) (p5_21 : List Chg) (deps1_21 : Bool) (deps2_21 : ByteArray) (deps3_21 : List Sx) (changes1_21 : Bool) (changes2_21 : ByteArray) (changes3_21 : List Sx) : Prop :=
 True /\
 True /\
 True /\
 sp121.pre (p3_21, ()) /\
 let g22 : prodL [.sl .sexp] := ([(⟨false, (⟨#[113, 117, 105, 108, 116, 49]⟩ : ByteArray), []⟩ : Sx), (⟨false, p1_21, []⟩ : Sx), (⟨false, p2_21, []⟩ : Sx), (⟨(numX p3_21).isList, (numX p3_21).atom, (numX p3_21).list⟩ : Sx), (⟨deps1_21, deps2_21, deps3_21⟩ : Sx), (⟨changes1_21, changes2_21, changes3_21⟩ : Sx)], ());
 sp122.pre (true, (⟨#[]⟩ : ByteArray), g22.1, ()) /\
 K (.tu [.str ((enT ⟨true, (⟨#[]⟩ : ByteArray), g22.1⟩).1), .int .i64 ((enT ⟨true, (⟨#[]⟩ : ByteArray), g22.1⟩).2)]) []
def F70_J20 (K : Kn) (W16 : prodL [.sl .chg, .int .i64, .int .i64, .str, .str, .int .i64, .sl .dig, .sl .chg, .bool, .str, .bool, .str, .sl .sexp, .sl .sexp] -> Prop) (t_19 : List Chg) (t2_19 t3_19 : Int) (p1_19 p2_19 : ByteArray) (p3_19 : Int) (p4_19 : List Dig) (p5_19 : List Chg) (deps1_19 : Bool) (deps2_19 : ByteArray) (changes1_19 : Bool) (changes2_19 : ByteArray) (x1_19 : Bool) (x2_19 : ByteArray) (x3_19 : List Sx) (deps_19 : List Sx) (changes_19 : List Sx) : Prop :=
 Room (changes_19.length + [(⟨x1_19, x2_19, x3_19⟩ : Sx)].length) 48 (
 W16 (t_19, t2_19, IntKind.i64.wrap (t3_19 + 1), p1_19, p2_19, p3_19, p4_19, p5_19, deps1_19, deps2_19, changes1_19, changes2_19, deps_19, changes_19 ++ [(⟨x1_19, x2_19, x3_19⟩ : Sx)], ()))
def F70_B16 (K : Kn) (W16 : prodL [.sl .chg, .int .i64, .int .i64, .str, .str, .int .i64, .sl .dig, .sl .chg, .bool, .str, .bool, .str, .sl .sexp, .sl .sexp] -> Prop) (t_15 : List Chg) (t2_15 t3_15 : Int) (p1_15 p2_15 : ByteArray) (p3_15 : Int) (p4_15 : List Dig) (p5_15 : List Chg) (deps1_15 : Bool) (deps2_15 : ByteArray) (changes1_15 : Bool) (changes2_15 : ByteArray) (deps_15 : List Sx) (changes_15 : List Sx) : Prop :=
 bif decide (t3_15 < t2_15) then (
  At t_15 t3_15 fun u17 =>
 sp121.pre (u17.kind, ()) /\
 let g18 : prodL [.sl .sexp] := ([(⟨(numX u17.kind).isList, (numX u17.kind).atom, (numX u17.kind).list⟩ : Sx)], ());
 bif decide (u17.kind = 1) then (
  sp160.pre (u17, ()) /\
  bif decide ((fldX 1 u17).length = 0) then (
   F70_J20 K W16 t_15 t2_15 t3_15 p1_15 p2_15 p3_15 p4_15 p5_15 deps1_15 deps2_15 changes1_15 changes2_15 true (⟨#[]⟩ : ByteArray) g18.1 deps_15 changes_15)
  else (
   Need (0 < (fldX 1 u17).length) (Room (g18.1.length + (fldX 1 u17).length) 48 (
   F70_J20 K W16 t_15 t2_15 t3_15 p1_15 p2_15 p3_15 p4_15 p5_15 deps1_15 deps2_15 changes1_15 changes2_15 true (⟨#[]⟩ : ByteArray) (g18.1 ++ (fldX 1 u17)) deps_15 changes_15))))
 else (
  bif decide (u17.kind = 2) then (
   sp161.pre (u17, ()) /\
   bif decide ((fldX 2 u17).length = 0) then (
    F70_J20 K W16 t_15 t2_15 t3_15 p1_15 p2_15 p3_15 p4_15 p5_15 deps1_15 deps2_15 changes1_15 changes2_15 true (⟨#[]⟩ : ByteArray) g18.1 deps_15 changes_15)
   else (
    Need (0 < (fldX 2 u17).length) (Room (g18.1.length + (fldX 2 u17).length) 48 (
    F70_J20 K W16 t_15 t2_15 t3_15 p1_15 p2_15 p3_15 p4_15 p5_15 deps1_15 deps2_15 changes1_15 changes2_15 true (⟨#[]⟩ : ByteArray) (g18.1 ++ (fldX 2 u17)) deps_15 changes_15))))
  else (
   bif decide (u17.kind = 3) then (
    sp164.pre (u17, ()) /\
    bif decide ((fldX 3 u17).length = 0) then (
     F70_J20 K W16 t_15 t2_15 t3_15 p1_15 p2_15 p3_15 p4_15 p5_15 deps1_15 deps2_15 changes1_15 changes2_15 true (⟨#[]⟩ : ByteArray) g18.1 deps_15 changes_15)
    else (
     Need (0 < (fldX 3 u17).length) (Room (g18.1.length + (fldX 3 u17).length) 48 (
     F70_J20 K W16 t_15 t2_15 t3_15 p1_15 p2_15 p3_15 p4_15 p5_15 deps1_15 deps2_15 changes1_15 changes2_15 true (⟨#[]⟩ : ByteArray) (g18.1 ++ (fldX 3 u17)) deps_15 changes_15))))
   else (
    bif decide (u17.kind = 4) then (
     sp165.pre (u17, ()) /\
     bif decide ((fldX 4 u17).length = 0) then (
      F70_J20 K W16 t_15 t2_15 t3_15 p1_15 p2_15 p3_15 p4_15 p5_15 deps1_15 deps2_15 changes1_15 changes2_15 true (⟨#[]⟩ : ByteArray) g18.1 deps_15 changes_15)
     else (
      Need (0 < (fldX 4 u17).length) (Room (g18.1.length + (fldX 4 u17).length) 48 (
      F70_J20 K W16 t_15 t2_15 t3_15 p1_15 p2_15 p3_15 p4_15 p5_15 deps1_15 deps2_15 changes1_15 changes2_15 true (⟨#[]⟩ : ByteArray) (g18.1 ++ (fldX 4 u17)) deps_15 changes_15))))
    else (
     bif decide (u17.kind = 5) then (
      sp166.pre (u17, ()) /\
      bif decide ((fldX 5 u17).length = 0) then (
       F70_J20 K W16 t_15 t2_15 t3_15 p1_15 p2_15 p3_15 p4_15 p5_15 deps1_15 deps2_15 changes1_15 changes2_15 true (⟨#[]⟩ : ByteArray) g18.1 deps_15 changes_15)
      else (
       Need (0 < (fldX 5 u17).length) (Room (g18.1.length + (fldX 5 u17).length) 48 (
       F70_J20 K W16 t_15 t2_15 t3_15 p1_15 p2_15 p3_15 p4_15 p5_15 deps1_15 deps2_15 changes1_15 changes2_15 true (⟨#[]⟩ : ByteArray) (g18.1 ++ (fldX 5 u17)) deps_15 changes_15))))
     else (
      bif decide (u17.kind = 6) then (
       sp168.pre (u17, ()) /\
       bif decide ((fldX 6 u17).length = 0) then (
        F70_J20 K W16 t_15 t2_15 t3_15 p1_15 p2_15 p3_15 p4_15 p5_15 deps1_15 deps2_15 changes1_15 changes2_15 true (⟨#[]⟩ : ByteArray) g18.1 deps_15 changes_15)
       else (
        Need (0 < (fldX 6 u17).length) (Room (g18.1.length + (fldX 6 u17).length) 48 (
        F70_J20 K W16 t_15 t2_15 t3_15 p1_15 p2_15 p3_15 p4_15 p5_15 deps1_15 deps2_15 changes1_15 changes2_15 true (⟨#[]⟩ : ByteArray) (g18.1 ++ (fldX 6 u17)) deps_15 changes_15))))
      else (
       bif decide (u17.kind = 7) then (
        sp169.pre (u17, ()) /\
        bif decide ((fldX 7 u17).length = 0) then (
         F70_J20 K W16 t_15 t2_15 t3_15 p1_15 p2_15 p3_15 p4_15 p5_15 deps1_15 deps2_15 changes1_15 changes2_15 true (⟨#[]⟩ : ByteArray) g18.1 deps_15 changes_15)
        else (
         Need (0 < (fldX 7 u17).length) (Room (g18.1.length + (fldX 7 u17).length) 48 (
         F70_J20 K W16 t_15 t2_15 t3_15 p1_15 p2_15 p3_15 p4_15 p5_15 deps1_15 deps2_15 changes1_15 changes2_15 true (⟨#[]⟩ : ByteArray) (g18.1 ++ (fldX 7 u17)) deps_15 changes_15))))
       else (
        False))))))))
 else (
  F70_J23 K p1_15 p2_15 p3_15 p4_15 p5_15 deps1_15 deps2_15 deps_15 changes1_15 changes2_15 changes_15)
def F70_L16 (K : Kn) (g : prodL [.sl .chg, .int .i64, .int .i64, .str, .str, .int .i64, .sl .dig, .sl .chg, .bool, .str, .bool, .str, .sl .sexp, .sl .sexp]) : Prop :=
 LoopW (γ := prodL [.sl .chg, .int .i64, .int .i64, .str, .str, .int .i64, .sl .dig, .sl .chg, .bool, .str, .bool, .str, .sl .sexp, .sl .sexp]) (fun V y => F70_B16 K V y.1 y.2.1 y.2.2.1 y.2.2.2.1 y.2.2.2.2.1 y.2.2.2.2.2.1 y.2.2.2.2.2.2.1 y.2.2.2.2.2.2.2.1 y.2.2.2.2.2.2.2.2.1 y.2.2.2.2.2.2.2.2.2.1 y.2.2.2.2.2.2.2.2.2.2.1 y.2.2.2.2.2.2.2.2.2.2.2.1 y.2.2.2.2.2.2.2.2.2.2.2.2.1 y.2.2.2.2.2.2.2.2.2.2.2.2.2.1) g
def F70_B7 (K : Kn) (W7 : prodL [.sl .dig, .int .i64, .int .i64, .str, .str, .int .i64, .sl .dig, .sl .chg, .bool, .str, .bool, .str, .sl .sexp] -> Prop) (t_6 : List Dig) (t2_6 t3_6 : Int) (p1_6 p2_6 : ByteArray) (p3_6 : Int) (p4_6 : List Dig) (p5_6 : List Chg) (deps1_6 : Bool) (deps2_6 : ByteArray) (changes1_6 : Bool) (changes2_6 : ByteArray) (deps_6 : List Sx) : Prop :=
 bif decide (t3_6 < t2_6) then (
  At t_6 t3_6 fun u8 =>
 True /\
 Room (deps_6.length + [(⟨false, dstr u8, []⟩ : Sx)].length) 48 (
 W7 (t_6, t2_6, IntKind.i64.wrap (t3_6 + 1), p1_6, p2_6, p3_6, p4_6, p5_6, deps1_6, deps2_6, changes1_6, changes2_6, deps_6 ++ [(⟨false, dstr u8, []⟩ : Sx)], ())))
 else (
  True /\
 F70_L16 K (p5_6, (p5_6.length : Int), 0, p1_6, p2_6, p3_6, p4_6, p5_6, deps1_6, deps2_6, changes1_6, changes2_6, deps_6, [], ()))
def F70_L7 (K : Kn) (g : prodL [.sl .dig, .int .i64, .int .i64, .str, .str, .int .i64, .sl .dig, .sl .chg, .bool, .str, .bool, .str, .sl .sexp]) : Prop :=
 LoopW (γ := prodL [.sl .dig, .int .i64, .int .i64, .str, .str, .int .i64, .sl .dig, .sl .chg, .bool, .str, .bool, .str, .sl .sexp]) (fun V y => F70_B7 K V y.1 y.2.1 y.2.2.1 y.2.2.2.1 y.2.2.2.2.1 y.2.2.2.2.2.1 y.2.2.2.2.2.2.1 y.2.2.2.2.2.2.2.1 y.2.2.2.2.2.2.2.2.1 y.2.2.2.2.2.2.2.2.2.1 y.2.2.2.2.2.2.2.2.2.2.1 y.2.2.2.2.2.2.2.2.2.2.2.1 y.2.2.2.2.2.2.2.2.2.2.2.2.1) g
def F70 (g : prodL L70) (K : Kn) : Prop :=
 let g1 : prodL [] := (());
 let g2 : prodL [] := (());
 F70_L7 K (g.2.2.2.1, (g.2.2.2.1.length : Int), 0, g.1, g.2.1, g.2.2.1, g.2.2.2.1, g.2.2.2.2.1, true, (⟨#[]⟩ : ByteArray), true, (⟨#[]⟩ : ByteArray), [], ())
theorem F70_eq (g : prodL L70) (K X : Kn) : F70 g K = dfun D (gamX [(118, rw118), (118, rw118n)] [(119, false, sp119), (120, false, sp120), (121, false, sp121), (122, true, sp122), (160, false, sp160), (161, false, sp161), (164, false, sp164), (165, false, sp165), (166, false, sp166), (168, false, sp168), (169, false, sp169)]) (isRaw [(118, rw118), (118, rw118n)]) H70 J70 77 [.tmp 2, .tmp 3] (codeOf Tryz.f70) (argsT S70 L70 g) [] (settle0 K) X := by kernel_rfl
theorem F70_ok (g : prodL L70) (K X : Kn) (h : F70 g K) : FCalls Tryz.prog 70 (argsT S70 L70 g) [] K X :=
 FCalls.settle0 (dfun_sound (Γ := gamX [(118, rw118), (118, rw118n)] [(119, false, sp119), (120, false, sp120), (121, false, sp121), (122, true, sp122), (160, false, sp160), (161, false, sp161), (164, false, sp164), (165, false, sp165), (166, false, sp166), (168, false, sp168), (169, false, sp169)]) (mu := isRaw [(118, rw118), (118, rw118n)]) (H := H70) (J := J70) D_ok (gamX_ok (rs := [(118, rw118), (118, rw118n)]) (l := [(119, false, sp119), (120, false, sp120), (121, false, sp121), (122, true, sp122), (160, false, sp160), (161, false, sp161), (164, false, sp164), (165, false, sp165), (166, false, sp166), (168, false, sp168), (169, false, sp169)]) (by intro p hp; simp only [List.mem_cons, List.not_mem_nil, or_false] at hp; rcases hp with rfl | rfl <;> first | exact rw118_ok | exact rw118n_ok) (by intro p hp; simp only [List.mem_cons, List.not_mem_nil, or_false] at hp; rcases hp with rfl | rfl | rfl | rfl | rfl | rfl | rfl | rfl | rfl | rfl | rfl <;> first | exact sp119_ok | exact sp120_ok | exact sp121_ok | exact sp122_ok | exact sp160_ok | exact sp161_ok | exact sp164_ok | exact sp165_ok | exact sp166_ok | exact sp168_ok | exact sp169_ok)) gamX_det rfl Tryz.func70 (c := codeOf Tryz.f70) rfl Tryz.ntmps70 Tryz.results70 (by unfold enters; rw [Tryz.func70]; kernel_rfl) (Nat.le_of_ble_eq_true (by kernel_rfl)) (c0 := 0) (Eq.mp (F70_eq g K X) h))
end Go.Proofs.YtbglndogddddoaaGreatDoor
namespace Go.Proofs.YtbglndogddddoaaGreatDoor
open Go.RowKit
set_option maxRecDepth 100000
def paP (a m : ByteArray) (t : Int) (ds : List Dig) (cs : List Chg) : Prop :=
 intP t /\ a.size <= 4194304 /\ m.size <= 4194304 /\ ds.length <= 4194304 /\ (cs.map bk_chg).sum <= 4194304 /\ ∀ c ∈ cs, chW c /\ kindP c
theorem chP_of {cs : List Chg} (h : (cs.map bk_chg).sum <= 4194304) {c : Chg} (hc : c ∈ cs) : chP c := Nat.le_trans (sum_mem bk_chg hc) h
theorem cs_len {cs : List Chg} (h : (cs.map bk_chg).sum <= 4194304) : cs.length <= 40000 := by
 have := sum_len bk_chg 135 cs fun c _ => by unfold bk_chg; omega
 omega
theorem kind_int {c : Chg} (h : kindP c) : intP c.kind := ⟨by have := h.1; omega, by have := h.2; omega⟩
theorem bk_chs : ∀ {cs : List Chg}, (∀ c ∈ cs, chP c /\ chW c /\ kindP c) -> bkSs (cs.map chX) <= 5 * (cs.map bk_chg).sum + 300 * cs.length
 | [], _ => by simp [bkSs]
 | c :: cs, h => by
  obtain ⟨h1, h2, h3⟩ := h c (List.mem_cons_self ..)
  have := bk_chX h1 h2 (kind_int h3)
  have := bk_chs fun c hc => h c (List.mem_cons_of_mem _ hc)
  simp only [List.map_cons, bkSs, List.sum_cons, List.length_cons]
  omega
theorem bk_patX {a m : ByteArray} {t : Int} {ds : List Dig} {cs : List Chg} (hp : paP a m t ds cs) (f : Dig -> Sx) (hf : ∀ d, bkS (f d) <= 35) : bkS (patX a m t (ds.map f) cs) <= lim := by
 obtain ⟨h1, h2, h3, h4, h5, h6⟩ := hp
 have e1 := bk_chs fun c hc => ⟨chP_of h5 hc, h6 c hc⟩
 have e2 := cs_len h5
 have e3 := bkSs_map f 35 ds fun d _ => hf d
 have e4 := bkS_num h1
 have e5 : quiltS.size = 6 := rfl
 have e6 : lim = 1073741824 := rfl
 unfold patX
 rw [bkS_list]
 simp only [bkSs, bkS_atom, bkS_list, e5]
 omega
theorem app_or {w : Sx} {l : List Sx} (J : List Sx -> Prop) (hl : l.length <= 4294967295) (h : J (w :: l)) : bif decide (l.length = 0) then J [w] else Need (0 < l.length) (Room ([w].length + l.length) 48 (J ([w] ++ l))) := by
 by_cases e : l.length = 0
 . rw [decide_eq_true e, cond_true]
   rwa [List.length_eq_zero_iff.1 e] at h
 . rw [decide_eq_false e, cond_false]
   exact ⟨by omega, by simp only [List.length_singleton]; omega, h⟩
theorem F70_L16_is {a m : ByteArray} {t : Int} {ds : List Dig} {cs : List Chg} {K : Kn} {D : List Sx} (hp : paP a m t ds cs)
  (h : F70_J23 K a m t ds cs true ⟨#[]⟩ D true ⟨#[]⟩ (cs.map chX)) : F70_L16 K (cs, (cs.length : Int), 0, a, m, t, ds, cs, true, ⟨#[]⟩, true, ⟨#[]⟩, D, [], ()) := by
 obtain ⟨h1, h2, h3, h4, h5, h6⟩ := hp
 have hl := cs_len h5
 unfold F70_L16
 refine LoopW.map cs chX (fun n out => (cs, (cs.length : Int), n, a, m, t, ds, cs, true, ⟨#[]⟩, true, ⟨#[]⟩, D, out, ())) (by omega) rfl (fun W n hn out ho hW => ?_) fun W => ?_
 . show F70_B16 K W cs cs.length n a m t ds cs true ⟨#[]⟩ true ⟨#[]⟩ D out
   unfold F70_B16
   rw [lt_true hn, cond_true]
   have hm := List.getElem_mem hn
   have hc := chP_of h5 hm
   obtain ⟨hw, hk⟩ := h6 _ hm
   refine At_of hn ⟨kind_int hk, ?_⟩
   simp only [sx_eta]
   have hfl : ∀ k, (fldX k cs[n]).length <= 4294967295 := fun k => by unfold fldX; split <;> simp
   have hJ : ∀ l, numX cs[n].kind :: fldX cs[n].kind.toNat cs[n] = l -> F70_J20 K W cs cs.length n a m t ds cs true ⟨#[]⟩ true ⟨#[]⟩ true ⟨#[]⟩ l D out := by
    rintro l rfl
    unfold F70_J20
    exact ⟨by simp only [List.length_singleton, ho]; omega, hW⟩
   generalize cs[n] = u at hm hc hw hk hW hfl hJ ⊢
   obtain ⟨kind, file, typ, parent, name, mode, data, after, before, lines, over⟩ := u
   have hk1 : (1 : Int) <= kind /\ kind <= 7 := hk
   have : kind = 1 ∨ kind = 2 ∨ kind = 3 ∨ kind = 4 ∨ kind = 5 ∨ kind = 6 ∨ kind = 7 := by omega
   rcases this with rfl | rfl | rfl | rfl | rfl | rfl | rfl
   . exact ⟨⟨hc, hw⟩, app_or (fun l => F70_J20 K W cs cs.length n a m t ds cs true ⟨#[]⟩ true ⟨#[]⟩ true ⟨#[]⟩ l D out) (hfl 1) (hJ _ rfl)⟩
   . show sp161.pre _ /\ _
     exact ⟨⟨hc, hw⟩, app_or (fun l => F70_J20 K W cs cs.length n a m t ds cs true ⟨#[]⟩ true ⟨#[]⟩ true ⟨#[]⟩ l D out) (hfl 2) (hJ _ rfl)⟩
   . show sp164.pre _ /\ _
     exact ⟨⟨hc, hw⟩, app_or (fun l => F70_J20 K W cs cs.length n a m t ds cs true ⟨#[]⟩ true ⟨#[]⟩ true ⟨#[]⟩ l D out) (hfl 3) (hJ _ rfl)⟩
   . show sp165.pre _ /\ _
     exact ⟨⟨hc, hw⟩, app_or (fun l => F70_J20 K W cs cs.length n a m t ds cs true ⟨#[]⟩ true ⟨#[]⟩ true ⟨#[]⟩ l D out) (hfl 4) (hJ _ rfl)⟩
   . show sp166.pre _ /\ _
     exact ⟨⟨hc, hw⟩, app_or (fun l => F70_J20 K W cs cs.length n a m t ds cs true ⟨#[]⟩ true ⟨#[]⟩ true ⟨#[]⟩ l D out) (hfl 5) (hJ _ rfl)⟩
   . show sp168.pre _ /\ _
     exact ⟨⟨hc, hw⟩, app_or (fun l => F70_J20 K W cs cs.length n a m t ds cs true ⟨#[]⟩ true ⟨#[]⟩ true ⟨#[]⟩ l D out) (hfl 6) (hJ _ rfl)⟩
   . show sp169.pre _ /\ _
     exact ⟨⟨hc, hw⟩, app_or (fun l => F70_J20 K W cs cs.length n a m t ds cs true ⟨#[]⟩ true ⟨#[]⟩ true ⟨#[]⟩ l D out) (hfl 7) (hJ _ rfl)⟩
 . show F70_B16 K W cs cs.length cs.length a m t ds cs true ⟨#[]⟩ true ⟨#[]⟩ D (cs.map chX)
   unfold F70_B16
   rw [lt_false, cond_false]; exact h
def patD (ds : List Dig) : List Sx := ds.map fun d => atomX (dstr d)
theorem F70_is {a m : ByteArray} {t : Int} {ds : List Dig} {cs : List Chg} {K : Kn} (hp : paP a m t ds cs) (h : K (.tu [.str (enT (patX a m t (patD ds) cs)).1, .int .i64 (enT (patX a m t (patD ds) cs)).2]) []) : F70 (a, m, t, ds, cs, ()) K := by
 have hl := hp.2.2.2.1
 unfold F70
 show F70_L7 K _
 unfold F70_L7
 refine LoopW.map ds (fun d => atomX (dstr d)) (fun n out => (ds, (ds.length : Int), n, a, m, t, ds, cs, true, ⟨#[]⟩, true, ⟨#[]⟩, out, ())) (by omega) rfl (fun W n hn out ho hW => ?_) fun W => ?_
 . show F70_B7 K W ds ds.length n a m t ds cs true ⟨#[]⟩ true ⟨#[]⟩ out
   unfold F70_B7
   rw [lt_true hn, cond_true]
   exact At_of hn ⟨trivial, by simp only [List.length_singleton, ho]; omega, hW⟩
 . show F70_B7 K W ds ds.length ds.length a m t ds cs true ⟨#[]⟩ true ⟨#[]⟩ (ds.map fun d => atomX (dstr d))
   unfold F70_B7
   rw [lt_false, cond_false]
   refine ⟨trivial, F70_L16_is hp ?_⟩
   unfold F70_J23
   simp only [sx_eta]
   exact ⟨trivial, trivial, trivial, hp.1, ⟨bk_patX hp (fun d => atomX (dstr d)) fun d => by rw [bkS_atom, dstr_size]; omega, encode_ok⟩, h⟩
def sp70 : Sp := ⟨S70, L70, fun g => paP g.1 g.2.1 g.2.2.1 g.2.2.2.1 g.2.2.2.2.1, fun g => .tu [.str (enT (patX g.1 g.2.1 g.2.2.1 (patD g.2.2.2.1) g.2.2.2.2.1)).1, .int .i64 (enT (patX g.1 g.2.1 g.2.2.1 (patD g.2.2.2.1) g.2.2.2.2.1)).2], fun _ => none⟩
theorem sp70_ok : sp70.Ok Tryz.prog 70 true :=
 ⟨fun g K X hp h => F70_ok g K X (F70_is hp h), fun _ _ _ => rfl, fun _ => rfl, fun _ _ => ⟨rfl, rfl⟩⟩
set_option maxRecDepth 100000
def overK (k : Int) : Int := match mfind .ment (.int .i64 k) (mput .ment (.int .i64 6) ((⟨6, 6⟩ : Ment) : Ment) (mput .ment (.int .i64 4) ((⟨4, 4⟩ : Ment) : Ment) (mput .ment (.int .i64 3) ((⟨3, 3⟩ : Ment) : Ment) (mput .ment (.int .i64 2) ((⟨2, 2⟩ : Ment) : Ment) ([] : List Ment))))) with | some x => x.val | none => 0
def fitDa (x : Atm) : Bool := bif decide (x.kind = 1) then (bif decide (x.typ = 2) then true else decide (x.typ = 3)) else false
def fitTx (x : Atm) : Bool := bif decide (x.kind = 1) then decide (x.typ = 1) else false
def fitDi (x : Atm) : Bool := bif decide (x.kind = 1) then decide (x.typ = 4) else false
def fitEn (x : Atm) (c : Chg) : Bool := bif idEq x.id c.file then true else bif decide (x.kind = 5) then idEq x.file c.file else false
def fitSu (x : Atm) (c : Chg) : Bool := bif decide (c.kind = 7) then true else bif decide (x.kind = overK c.kind) then idEq x.file c.file else false
def fitFd : Fd -> Atm -> Bool
 | .file, x => decide (x.kind = 1)
 | .data, x => fitDa x
 | .txt, x => fitTx x
 | .dir, x => fitDi x
 | .fin c, x => fitEn x c
 | .sup c, x => fitSu x c
def supL (c : Chg) : List Rfn := c.over.map fun x => ⟨x, Fd.sup c⟩
def rL17 (c : Chg) (t : Bool) (out : List Rfn) : List Rfn := bif t then (out ++ [⟨c.after, Fd.fin c⟩]) ++ [⟨c.before, Fd.fin c⟩] ++ supL c else out ++ supL c
def rL24 (c : Chg) (out : List Rfn) : List Rfn := rL17 c (bif decide (c.kind = 5) then true else decide (c.kind = 6)) out
def rL12 (c : Chg) (t : Bool) (out : List Rfn) : List Rfn := bif t then rL24 c (out ++ [⟨c.parent, Fd.dir⟩]) else rL24 c out
def rL25 (c : Chg) (out : List Rfn) : List Rfn := rL12 c (bif decide (c.kind = 2) then !(idEq c.parent ⟨dz, -1⟩) else false) out
def rL7 (c : Chg) (t : Bool) : List Rfn := bif t then rL25 c [⟨c.file, Fd.txt⟩] else rL25 c []
def rL8 (c : Chg) (k : Int) (t : Bool) : List Rfn := bif t then rL25 c [⟨c.file, Fd.file⟩] else bif decide (k = 4) then rL25 c [⟨c.file, Fd.data⟩] else rL7 c (bif decide (k = 5) then true else decide (k = 6))
def refsC (c : Chg) : List Rfn := rL8 c c.kind (bif decide (c.kind = 2) then true else decide (c.kind = 3))
def refE (own : List Atm) (r : Rfn) : Int :=
 bif (bif decide (r.id.n < 0) then true else bif (bif ownB r.id then decide ((own.length : Int) <= r.id.n) else false) then true else decide (100000 <= r.id.n)) then 7 else
 bif (bif ownB r.id then !(fitFd r.fits (own.getD r.id.n.toNat az)) else false) then 8 else 0
def lastP15 (t : Bool) (c : Chg) : Int := bif (bif t then true else bif decide (c.kind = 5) then (bif idEq c.after c.before then !(idEq c.after c.file) else false) else false) then 1 else 0
def lastP18 (t : Bool) (c : Chg) : Int := bif t then 20 else lastP15 (bif decide (c.kind = 6) then idEq c.after c.before else false) c
def lastP (c : Chg) : Int := lastP18 (bif decide (c.kind = 2) then idEq c.parent c.file else false) c
def refsP (c : Chg) (own : List Atm) : Int := bif !decide (errs ((refsC c).map (refE own)) = 0) then errs ((refsC c).map (refE own)) else lastP c
def idO (n : Int) : Idn := ⟨dz, n⟩
def lnA (c : Chg) (n : Int) (s : ByteArray) : Atm := ⟨idO n, 5, c.file, 0, iz, ⟨#[]⟩, 0, ⟨#[]⟩, s, iz, iz, []⟩
def egA (c : Chg) (n : Int) (f t : Idn) : Atm := ⟨idO n, 6, c.file, 0, iz, ⟨#[]⟩, 0, ⟨#[]⟩, ⟨#[]⟩, f, t, []⟩
def lnI (c : Chg) (n : Int) (i : Nat) : Atm := lnA c (n + i) (c.lines.getD i ⟨#[]⟩)
def tilI (c : Chg) (n : Int) (i : Nat) : Idn := bif decide (i < c.lines.length) then idO (n + i) else c.before
def frmI (c : Chg) (n : Int) : Nat -> Idn
 | 0 => c.after
 | i + 1 => idO (n + i)
def egI (c : Chg) (n : Int) (i : Nat) : Atm := egA c (n + c.lines.length + i) (frmI c n i) (tilI c n i)
def lnsL (c : Chg) (n : Int) : List Atm := (List.range c.lines.length).map (lnI c n)
def egsL (c : Chg) (n : Int) : List Atm := (List.range (c.lines.length + 1)).map (egI c n)
def madK (k : Nat) (c : Chg) (n : Int) : List Atm := match k with
 | 1 => [⟨idO n, 1, idO n, c.typ, iz, ⟨#[]⟩, 0, ⟨#[]⟩, ⟨#[]⟩, iz, iz, []⟩]
 | 2 => [⟨idO n, 2, c.file, 0, c.parent, c.name, 0, ⟨#[]⟩, ⟨#[]⟩, iz, iz, c.over⟩]
 | 3 => [⟨idO n, 3, c.file, 0, iz, ⟨#[]⟩, c.mode, ⟨#[]⟩, ⟨#[]⟩, iz, iz, c.over⟩]
 | 4 => [⟨idO n, 4, c.file, 0, iz, ⟨#[]⟩, 0, c.data, ⟨#[]⟩, iz, iz, c.over⟩]
 | 5 => lnsL c n ++ egsL c n
 | 6 => [⟨idO n, 6, c.file, 0, iz, ⟨#[]⟩, 0, ⟨#[]⟩, ⟨#[]⟩, c.after, c.before, c.over⟩]
 | 7 => [⟨idO n, 7, iz, 0, iz, ⟨#[]⟩, 0, ⟨#[]⟩, ⟨#[]⟩, iz, iz, c.over⟩]
 | _ => []
def madeL (c : Chg) (n : Int) : List Atm := madK c.kind.toNat c n
theorem madeL_len {c : Chg} {n : Int} (hk : kindP c) : (madeL c n).length = if c.kind = 5 then 2 * c.lines.length + 1 else 1 := by
 obtain ⟨kind, file, typ, parent, name, mode, data, after, before, lines, over⟩ := c
 have hk1 : (1 : Int) <= kind /\ kind <= 7 := hk
 have : kind = 1 ∨ kind = 2 ∨ kind = 3 ∨ kind = 4 ∨ kind = 5 ∨ kind = 6 ∨ kind = 7 := by omega
 rcases this with rfl | rfl | rfl | rfl | rfl | rfl | rfl <;> try rfl
 show (lnsL _ n ++ egsL _ n).length = _
 simp [lnsL, egsL]
 omega
theorem madeL_le {c : Chg} {n : Int} (hk : kindP c) : (madeL c n).length <= 2 * bk_chg c := by
 rw [madeL_len hk]
 have := sum_len bk_str 1 c.lines fun x _ => by unfold bk_str; omega
 unfold bk_chg
 split <;> omega
def preM (c : Chg) (n : Int) : Prop := kindP c /\ c.lines.length <= 4194304 /\ 0 <= n /\ n <= 1099511627776
def pre84 (g : prodL [.pr .i64, .pr .chg, .sl .atm]) : Prop := preM g.2.1 g.1 /\ g.2.2.1.length <= 16777216
def chgsG (f : Chg -> Int) (r : Chg -> List Atm -> Int) : List Chg -> List Atm -> List Atm × Int
 | [], own => (own, 0)
 | c :: l, own => bif !decide (f c = 0) then ([], f c) else bif !decide (r c own = 0) then ([], r c own) else chgsG f r l (own ++ madeL c own.length)
def chgsP (cs : List Chg) : List Atm × Int := chgsG fieldsP refsP cs []
def exP5 (l : List Atm) (s : ByteArray) (t : Bool) : List Atm × ByteArray × Int := bif t then ([], ⟨#[]⟩, 4) else (l, s, 0)
def exEnd (r : List Atm × Int) (x : ByteArray × Int) : List Atm × ByteArray × Int :=
 bif !decide (r.2 = 0) then ([], ⟨#[]⟩, r.2) else exP5 r.1 x.1 (bif !decide (x.2 = 0) then true else decide (65536 < (x.1.size : Int)))
def exP (a m : ByteArray) (t : Int) (ds : List Dig) (cs : List Chg) : List Atm × ByteArray × Int :=
 bif !decide (headB digC a m t ds cs = 0) then ([], ⟨#[]⟩, headB digC a m t ds cs) else exEnd (chgsP cs) (enT (patX a m t (patD ds) cs))
def xP (a m : ByteArray) (t : Int) (ds : List Dig) (cs : List Chg) : Prop :=
 intP t /\ a.size <= 4194304 /\ m.size <= 4194304 /\ ds.length <= 4194304 /\ (cs.map bk_chg).sum <= 4194304 /\ ∀ c ∈ cs, chW c
theorem kind_of_fieldsP {c : Chg} (h : fieldsP c = 0) : kindP c := by
 unfold fieldsP fP10 at h
 by_cases h1 : c.kind < 1
 . rw [decide_eq_true h1, cond_true, cond_true] at h; cases h
 . rw [decide_eq_false h1, cond_false] at h
   by_cases h2 : 7 < c.kind
   . rw [decide_eq_true h2, cond_true] at h; cases h
   . exact ⟨by omega, by omega⟩
theorem LoopW.mapN {β γ : Type} {body : (γ -> Prop) -> γ -> Prop} {g : γ} (N : Nat) (f : Nat -> β) (S : Nat -> List β -> γ) (hg : g = S 0 [])
  (step : ∀ (W : γ -> Prop) (n : Nat), n < N -> ∀ out : List β, out.length = n -> W (S (n + 1) (out ++ [f n])) -> body W (S n out))
  (last : ∀ W : γ -> Prop, body W (S N ((List.range N).map f))) : LoopW body g := by
 refine LoopW.countTo N (fun n => S n ((List.range n).map f)) (fun _ => True) hg (fun n hn _ W hW => ?_) trivial
 by_cases hlt : n < N
 . refine step W n hlt _ (by simp) ?_
   have := hW hlt trivial
   rwa [List.range_succ, List.map_append] at this
 . have : n = N := by omega
   subst this
   exact last W
end Go.Proofs.YtbglndogddddoaaGreatDoor
namespace Go.Proofs.YtbglndogddddoaaGreatDoor
open Go.RowKit
attribute [local irreducible] dfun dround
set_option maxRecDepth 100000
def H95 : List (Nat × Hint) := []
def J95 : List (Nat × Hint) := []
abbrev S95 : List Sh := [.leaf]
abbrev L95 : List Lf := [.int .i64]
def F95 (g : prodL L95) (K : Kn) : Prop :=
 K (.int .i64 (match mfind .ment (.int .i64 g.1) (mput .ment (.int .i64 6) ((⟨6, 6⟩ : Ment) : Ment) (mput .ment (.int .i64 4) ((⟨4, 4⟩ : Ment) : Ment) (mput .ment (.int .i64 3) ((⟨3, 3⟩ : Ment) : Ment) (mput .ment (.int .i64 2) ((⟨2, 2⟩ : Ment) : Ment) ([] : List Ment))))) with | some x => x.val | none => 0)) []
theorem F95_eq (g : prodL L95) (K X : Kn) : F95 g K = dfun D (gamX [] []) (isRaw []) H95 J95 7 [.tmp 2] (codeOf Tryz.f95) (argsT S95 L95 g) [] (settle0 K) X := by kernel_rfl
theorem F95_ok (g : prodL L95) (K X : Kn) (h : F95 g K) : FCalls Tryz.prog 95 (argsT S95 L95 g) [] K X :=
 FCalls.settle0 (dfun_sound D_ok (gmX gm0) gamX_det rfl Tryz.func95 (c := codeOf Tryz.f95) rfl Tryz.ntmps95 Tryz.results95 (by unfold enters; rw [Tryz.func95]; kernel_rfl) (Nat.le_of_ble_eq_true (by kernel_rfl)) (c0 := 0) (Eq.mp (F95_eq g K X) h))
def sp95 : Sp := ⟨S95, L95, fun _ => True, fun g => .int .i64 (overK g.1), fun _ => none⟩
theorem sp95_ok : sp95.Ok Tryz.prog 95 true :=
 ⟨fun g K X hp h => F95_ok g K X h, fun _ _ _ => rfl, fun _ => rfl, by first | exact fun _ _ => ⟨rfl, rfl⟩ | (intro h; cases h)⟩
def H89 : List (Nat × Hint) := []
def J89 : List (Nat × Hint) := []
abbrev S89 : List Sh := [.leaf]
abbrev L89 : List Lf := [.el .atm]
def F89 (g : prodL L89) (K : Kn) : Prop :=
 K (.bool (decide (g.1.kind = 1))) []
theorem F89_eq (g : prodL L89) (K X : Kn) : F89 g K = dfun D (gamX [] []) (isRaw []) H89 J89 6 [.tmp 2] (codeOf Tryz.f89) (argsT S89 L89 g) [] (settle0 K) X := by kernel_rfl
theorem F89_ok (g : prodL L89) (K X : Kn) (h : F89 g K) : FCalls Tryz.prog 89 (argsT S89 L89 g) [] K X :=
 FCalls.settle0 (dfun_sound D_ok (gmX gm0) gamX_det rfl Tryz.func89 (c := codeOf Tryz.f89) rfl Tryz.ntmps89 Tryz.results89 (by unfold enters; rw [Tryz.func89]; kernel_rfl) (Nat.le_of_ble_eq_true (by kernel_rfl)) (c0 := 0) (Eq.mp (F89_eq g K X) h))
def sp89 : Sp := ⟨S89, L89, fun _ => True, fun g => .bool (decide (g.1.kind = 1)), fun _ => none⟩
theorem sp89_ok : sp89.Ok Tryz.prog 89 false :=
 ⟨fun g K X hp h => F89_ok g K X h, fun _ _ _ => rfl, fun _ => rfl, by first | exact fun _ _ => ⟨rfl, rfl⟩ | (intro h; cases h)⟩
def H90 : List (Nat × Hint) := []
def J90 : List (Nat × Hint) := []
abbrev S90 : List Sh := [.leaf]
abbrev L90 : List Lf := [.el .atm]
def F90 (g : prodL L90) (K : Kn) : Prop :=
 bif decide (g.1.kind = 1) then (
  bif decide (g.1.typ = 2) then (
   K (.bool true) [])
  else (
   K (.bool (decide (g.1.typ = 3))) []))
 else (
  K (.bool false) [])
theorem F90_eq (g : prodL L90) (K X : Kn) : F90 g K = dfun D (gamX [] []) (isRaw []) H90 J90 16 [.tmp 2] (codeOf Tryz.f90) (argsT S90 L90 g) [] (settle0 K) X := by kernel_rfl
theorem F90_ok (g : prodL L90) (K X : Kn) (h : F90 g K) : FCalls Tryz.prog 90 (argsT S90 L90 g) [] K X :=
 FCalls.settle0 (dfun_sound D_ok (gmX gm0) gamX_det rfl Tryz.func90 (c := codeOf Tryz.f90) rfl Tryz.ntmps90 Tryz.results90 (by unfold enters; rw [Tryz.func90]; kernel_rfl) (Nat.le_of_ble_eq_true (by kernel_rfl)) (c0 := 0) (Eq.mp (F90_eq g K X) h))
def sp90 : Sp := ⟨S90, L90, fun _ => True, fun g => .bool (fitDa g.1), fun _ => none⟩
theorem sp90_ok : sp90.Ok Tryz.prog 90 true :=
 ⟨fun g K X hp h => F90_ok g K X (by
  have h : K (.bool (fitDa g.1)) [] := h
  revert h; unfold F90 fitDa; show (fun v => K (.bool v) []) _ -> _
  repeat' (first | exact id | refine bifT (K := fun v => K (.bool v) []) ?_ ?_ | (intro h; refine ⟨trivial, ?_⟩; revert h))), fun _ _ _ => rfl, fun _ => rfl, by first | exact fun _ _ => ⟨rfl, rfl⟩ | (intro h; cases h)⟩
def H91 : List (Nat × Hint) := []
def J91 : List (Nat × Hint) := []
abbrev S91 : List Sh := [.leaf]
abbrev L91 : List Lf := [.el .atm]
def F91 (g : prodL L91) (K : Kn) : Prop :=
 bif decide (g.1.kind = 1) then (
  K (.bool (decide (g.1.typ = 1))) [])
 else (
  K (.bool false) [])
theorem F91_eq (g : prodL L91) (K X : Kn) : F91 g K = dfun D (gamX [] []) (isRaw []) H91 J91 11 [.tmp 2] (codeOf Tryz.f91) (argsT S91 L91 g) [] (settle0 K) X := by kernel_rfl
theorem F91_ok (g : prodL L91) (K X : Kn) (h : F91 g K) : FCalls Tryz.prog 91 (argsT S91 L91 g) [] K X :=
 FCalls.settle0 (dfun_sound D_ok (gmX gm0) gamX_det rfl Tryz.func91 (c := codeOf Tryz.f91) rfl Tryz.ntmps91 Tryz.results91 (by unfold enters; rw [Tryz.func91]; kernel_rfl) (Nat.le_of_ble_eq_true (by kernel_rfl)) (c0 := 0) (Eq.mp (F91_eq g K X) h))
def sp91 : Sp := ⟨S91, L91, fun _ => True, fun g => .bool (fitTx g.1), fun _ => none⟩
theorem sp91_ok : sp91.Ok Tryz.prog 91 true :=
 ⟨fun g K X hp h => F91_ok g K X (by
  have h : K (.bool (fitTx g.1)) [] := h
  revert h; unfold F91 fitTx; show (fun v => K (.bool v) []) _ -> _
  repeat' (first | exact id | refine bifT (K := fun v => K (.bool v) []) ?_ ?_ | (intro h; refine ⟨trivial, ?_⟩; revert h))), fun _ _ _ => rfl, fun _ => rfl, by first | exact fun _ _ => ⟨rfl, rfl⟩ | (intro h; cases h)⟩
def H92 : List (Nat × Hint) := []
def J92 : List (Nat × Hint) := []
abbrev S92 : List Sh := [.leaf]
abbrev L92 : List Lf := [.el .atm]
def F92 (g : prodL L92) (K : Kn) : Prop :=
 bif decide (g.1.kind = 1) then (
  K (.bool (decide (g.1.typ = 4))) [])
 else (
  K (.bool false) [])
theorem F92_eq (g : prodL L92) (K X : Kn) : F92 g K = dfun D (gamX [] []) (isRaw []) H92 J92 11 [.tmp 2] (codeOf Tryz.f92) (argsT S92 L92 g) [] (settle0 K) X := by kernel_rfl
theorem F92_ok (g : prodL L92) (K X : Kn) (h : F92 g K) : FCalls Tryz.prog 92 (argsT S92 L92 g) [] K X :=
 FCalls.settle0 (dfun_sound D_ok (gmX gm0) gamX_det rfl Tryz.func92 (c := codeOf Tryz.f92) rfl Tryz.ntmps92 Tryz.results92 (by unfold enters; rw [Tryz.func92]; kernel_rfl) (Nat.le_of_ble_eq_true (by kernel_rfl)) (c0 := 0) (Eq.mp (F92_eq g K X) h))
def sp92 : Sp := ⟨S92, L92, fun _ => True, fun g => .bool (fitDi g.1), fun _ => none⟩
theorem sp92_ok : sp92.Ok Tryz.prog 92 true :=
 ⟨fun g K X hp h => F92_ok g K X (by
  have h : K (.bool (fitDi g.1)) [] := h
  revert h; unfold F92 fitDi; show (fun v => K (.bool v) []) _ -> _
  repeat' (first | exact id | refine bifT (K := fun v => K (.bool v) []) ?_ ?_ | (intro h; refine ⟨trivial, ?_⟩; revert h))), fun _ _ _ => rfl, fun _ => rfl, by first | exact fun _ _ => ⟨rfl, rfl⟩ | (intro h; cases h)⟩
def H93 : List (Nat × Hint) := []
def J93 : List (Nat × Hint) := []
abbrev S93 : List Sh := [.leaf, .leaf]
abbrev L93 : List Lf := [.el .atm, .pr .chg]
def F93 (g : prodL L93) (K : Kn) : Prop :=
 bif idEq g.1.id g.2.1.file then (
  K (.bool true) [])
 else (
  bif decide (g.1.kind = 5) then (
   K (.bool (idEq g.1.file g.2.1.file)) [])
  else (
   K (.bool false) []))
theorem F93_eq (g : prodL L93) (K X : Kn) : F93 g K = dfun D (gamX [] []) (isRaw []) H93 J93 21 [.tmp 3] (codeOf Tryz.f93) (argsT S93 L93 g) [] (settle0 K) X := by kernel_rfl
theorem F93_ok (g : prodL L93) (K X : Kn) (h : F93 g K) : FCalls Tryz.prog 93 (argsT S93 L93 g) [] K X :=
 FCalls.settle0 (dfun_sound D_ok (gmX gm0) gamX_det rfl Tryz.func93 (c := codeOf Tryz.f93) rfl Tryz.ntmps93 Tryz.results93 (by unfold enters; rw [Tryz.func93]; kernel_rfl) (Nat.le_of_ble_eq_true (by kernel_rfl)) (c0 := 0) (Eq.mp (F93_eq g K X) h))
def sp93 : Sp := ⟨S93, L93, fun _ => True, fun g => .bool (fitEn g.1 g.2.1), fun _ => none⟩
theorem sp93_ok : sp93.Ok Tryz.prog 93 true :=
 ⟨fun g K X hp h => F93_ok g K X (by
  have h : K (.bool (fitEn g.1 g.2.1)) [] := h
  revert h; unfold F93 fitEn; show (fun v => K (.bool v) []) _ -> _
  repeat' (first | exact id | refine bifT (K := fun v => K (.bool v) []) ?_ ?_ | (intro h; refine ⟨trivial, ?_⟩; revert h))), fun _ _ _ => rfl, fun _ => rfl, by first | exact fun _ _ => ⟨rfl, rfl⟩ | (intro h; cases h)⟩
def H94 : List (Nat × Hint) := []
def J94 : List (Nat × Hint) := []
abbrev S94 : List Sh := [.leaf, .leaf]
abbrev L94 : List Lf := [.el .atm, .pr .chg]
def F94 (g : prodL L94) (K : Kn) : Prop :=
 bif decide (g.2.1.kind = 7) then (
  K (.bool true) [])
 else (
  True /\
  bif decide (g.1.kind = overK g.2.1.kind) then (
   K (.bool (idEq g.1.file g.2.1.file)) [])
  else (
   K (.bool false) []))
theorem F94_eq (g : prodL L94) (K X : Kn) : F94 g K = dfun D (gamX [] [(95, true, sp95)]) (isRaw []) H94 J94 22 [.tmp 3] (codeOf Tryz.f94) (argsT S94 L94 g) [] (settle0 K) X := by kernel_rfl
theorem F94_ok (g : prodL L94) (K X : Kn) (h : F94 g K) : FCalls Tryz.prog 94 (argsT S94 L94 g) [] K X :=
 FCalls.settle0 (dfun_sound (Γ := gamX [] [(95, true, sp95)]) (mu := isRaw []) (H := H94) (J := J94) D_ok (gamX_ok (rs := []) (l := [(95, true, sp95)]) (fun p hp => by cases hp) (by intro p hp; simp only [List.mem_cons, List.not_mem_nil, or_false] at hp; subst hp; exact sp95_ok)) gamX_det rfl Tryz.func94 (c := codeOf Tryz.f94) rfl Tryz.ntmps94 Tryz.results94 (by unfold enters; rw [Tryz.func94]; kernel_rfl) (Nat.le_of_ble_eq_true (by kernel_rfl)) (c0 := 0) (Eq.mp (F94_eq g K X) h))
def sp94 : Sp := ⟨S94, L94, fun _ => True, fun g => .bool (fitSu g.1 g.2.1), fun _ => none⟩
theorem sp94_ok : sp94.Ok Tryz.prog 94 true :=
 ⟨fun g K X hp h => F94_ok g K X (by
  have h : K (.bool (fitSu g.1 g.2.1)) [] := h
  revert h; unfold F94 fitSu; show (fun v => K (.bool v) []) _ -> _
  repeat' (first | exact id | refine bifT (K := fun v => K (.bool v) []) ?_ ?_ | (intro h; refine ⟨trivial, ?_⟩; revert h))), fun _ _ _ => rfl, fun _ => rfl, by first | exact fun _ _ => ⟨rfl, rfl⟩ | (intro h; cases h)⟩
def H88 : List (Nat × Hint) := []
def J88 : List (Nat × Hint) := []
abbrev S88 : List Sh := [.leaf, .leaf, .pt 0 0]
abbrev L88 : List Lf := [.el .idk, .fd, .sl .ref]
abbrev O88 : List ObSh := [.cells [.oa .ref 1], .arr .ref]
def F88 (g : prodL L88) (K : Kn) : Prop :=
 Room (g.2.2.1.length + [(⟨g.1, g.2.1⟩ : Rfn)].length) 48 (
 K (.tu []) [some (.cells [.oa .ref 1 0]), some (.arr 0 .ref (g.2.2.1 ++ [(⟨g.1, g.2.1⟩ : Rfn)]))])
theorem F88_eq (g : prodL L88) (K X : Kn) : F88 g K = dfun D (gamX [] []) (isRaw []) H88 J88 11 [] (codeOf Tryz.f88) (argsT S88 L88 g) (storeT S88 O88 L88 g) (settleD (storeT S88 O88 L88 g).length 0 K) X 0 := by kernel_rfl
theorem F88_ok (g : prodL L88) (K X : Kn) (h : F88 g K) : FCalls Tryz.prog 88 (argsT S88 L88 g) (storeT S88 O88 L88 g) K X 0 :=
 FCalls.settleD (dfun_sound (Γ := gamX [] []) (mu := isRaw []) (H := H88) (J := J88) D_ok (gmX gm0) gamX_det rfl Tryz.func88 (c := codeOf Tryz.f88) rfl Tryz.ntmps88 (rs := []) Tryz.results88 (by unfold enters; rw [Tryz.func88]; kernel_rfl) (Nat.le_of_ble_eq_true (by kernel_rfl)) (X := X) (c0 := 0) (Eq.mp (F88_eq g K X) h))
def rw88 : Raw := ⟨S88, O88, L88, 0, fun g K _ => F88 g K⟩
theorem rw88_ok : rw88.Ok Tryz.prog 88 := fun g K X h => F88_ok g K X h
def H88n : List (Nat × Hint) := []
def J88n : List (Nat × Hint) := []
abbrev S88n : List Sh := [.leaf, .leaf, .pt 0 0]
abbrev L88n : List Lf := [.el .idk, .fd]
abbrev O88n : List ObSh := [.cells [.nil]]
def F88n (g : prodL L88n) (K : Kn) : Prop :=
 Room ([(⟨g.1, g.2.1⟩ : Rfn)].length) 48 (
 K (.tu []) [some (.cells [.oa .ref 1 0]), some (.arr 0 .ref [(⟨g.1, g.2.1⟩ : Rfn)])])
theorem F88n_eq (g : prodL L88n) (K X : Kn) : F88n g K = dfun D (gamX [] []) (isRaw []) H88n J88n 11 [] (codeOf Tryz.f88) (argsT S88n L88n g) (storeT S88n O88n L88n g) (settleD (storeT S88n O88n L88n g).length 0 K) X 0 := by kernel_rfl
theorem F88n_ok (g : prodL L88n) (K X : Kn) (h : F88n g K) : FCalls Tryz.prog 88 (argsT S88n L88n g) (storeT S88n O88n L88n g) K X 0 :=
 FCalls.settleD (dfun_sound (Γ := gamX [] []) (mu := isRaw []) (H := H88n) (J := J88n) D_ok (gmX gm0) gamX_det rfl Tryz.func88 (c := codeOf Tryz.f88) rfl Tryz.ntmps88 (rs := []) Tryz.results88 (by unfold enters; rw [Tryz.func88]; kernel_rfl) (Nat.le_of_ble_eq_true (by kernel_rfl)) (X := X) (c0 := 0) (Eq.mp (F88n_eq g K X) h))
def rw88n : Raw := ⟨S88n, O88n, L88n, 0, fun g K _ => F88n g K⟩
theorem rw88n_ok : rw88n.Ok Tryz.prog 88 := fun g K X h => F88n_ok g K X h
def H43 : List (Nat × Hint) := []
def J43 : List (Nat × Hint) := []
abbrev S43 : List Sh := [.leaf, .leaf]
abbrev L43 : List Lf := [.el .chg, .int .i64]
def F43 (g : prodL L43) (K : Kn) : Prop :=
 K (.fn 84 [] [.pr .i64 g.2.1 0, .pr .chg g.1 0]) []
theorem F43_eq (g : prodL L43) (K X : Kn) : F43 g K = dfun D (gamX [] []) (isRaw []) H43 J43 6 [.tmp 4] (codeOf Tryz.f43) (argsT S43 L43 g) [] (settle0 K) X := by kernel_rfl
theorem F43_ok (g : prodL L43) (K X : Kn) (h : F43 g K) : FCalls Tryz.prog 43 (argsT S43 L43 g) [] K X :=
 FCalls.settle0 (dfun_sound D_ok (gmX gm0) gamX_det rfl Tryz.func43 (c := codeOf Tryz.f43) rfl Tryz.ntmps43 Tryz.results43 (by unfold enters; rw [Tryz.func43]; kernel_rfl) (Nat.le_of_ble_eq_true (by kernel_rfl)) (c0 := 0) (Eq.mp (F43_eq g K X) h))
def sp43 : Sp := ⟨S43, L43, fun _ => True, fun g => .fn 84 [] [.pr .i64 g.2.1 0, .pr .chg g.1 0], fun _ => none⟩
theorem sp43_ok : sp43.Ok Tryz.prog 43 false :=
 ⟨fun g K X hp h => F43_ok g K X (by
  have h : K (.fn 84 [] [.pr .i64 g.2.1 0, .pr .chg g.1 0]) [] := h
  exact h), fun _ _ _ => rfl, fun _ => rfl, by first | exact fun _ _ => ⟨rfl, rfl⟩ | (intro h; cases h)⟩
def H85 : List (Nat × Hint) := []
def J85 : List (Nat × Hint) := []
abbrev S85 : List Sh := [.leaf, .leaf]
abbrev L85 : List Lf := [.int .i64, .pr .i64]
def F85 (g : prodL L85) (K : Kn) : Prop :=
 K (.ag (enc .idk (⟨dz, IntKind.i64.wrap (g.2.1 + g.1)⟩ : Idn))) []
theorem F85_eq (g : prodL L85) (K X : Kn) : F85 g K = dfun D (gamX [] []) (isRaw []) H85 J85 8 [.cell 3 36] (codeOf Tryz.f85) (argsT S85 L85 g) [] (settle0 K) X := by kernel_rfl
theorem F85_ok (g : prodL L85) (K X : Kn) (h : F85 g K) : FCalls Tryz.prog 85 (argsT S85 L85 g) [] K X :=
 FCalls.settle0 (dfun_sound D_ok (gmX gm0) gamX_det rfl Tryz.func85 (c := codeOf Tryz.f85) rfl Tryz.ntmps85 Tryz.results85 (by unfold enters; rw [Tryz.func85]; kernel_rfl) (Nat.le_of_ble_eq_true (by kernel_rfl)) (c0 := 0) (Eq.mp (F85_eq g K X) h))
def sp85 : Sp := ⟨S85, L85, fun _ => True, fun g => .ag (enc .idk (⟨dz, IntKind.i64.wrap (g.2.1 + g.1)⟩ : Idn)), fun _ => none⟩
theorem sp85_ok : sp85.Ok Tryz.prog 85 false :=
 ⟨fun g K X hp h => F85_ok g K X (by
  have h : K (.ag (enc .idk (⟨dz, IntKind.i64.wrap (g.2.1 + g.1)⟩ : Idn))) [] := h
  exact h), fun _ _ _ => rfl, fun _ => rfl, by first | exact fun _ _ => ⟨rfl, rfl⟩ | (intro h; cases h)⟩
def H1036016 : List (Nat × Hint) := []
def J1036016 : List (Nat × Hint) := []
abbrev S1036016 : List Sh := [.leaf, .pt 0 0]
abbrev L1036016 : List Lf := [.el .atm, .sl .atm]
abbrev O1036016 : List ObSh := [.cells [.oa .atm 1], .arr .atm]
def F1036016 (g : prodL L1036016) (K : Kn) : Prop :=
 Room (g.2.1.length + [g.1].length) 296 (
 K (.bool true) [some (.cells [.oa .atm 1 0]), some (.arr 0 .atm (g.2.1 ++ [g.1]))])
theorem F1036016_eq (g : prodL L1036016) (K : Kn) : F1036016 g K = dround D (gamX [] []) (isRaw []) H1036016 J1036016 (rdAt Tryz.prog 1036016) [6] (argsT S1036016 L1036016 g) (storeT S1036016 O1036016 L1036016 g) (settleD (storeT S1036016 O1036016 L1036016 g).length 0 K) 0 := by kernel_rfl
theorem F1036016_ok (g : prodL L1036016) (K X : Kn) (h : F1036016 g K) : FCalls Tryz.prog 1036016 (argsT S1036016 L1036016 g) (storeT S1036016 O1036016 L1036016 g) K X 0 :=
 FCalls.settleD (dround_ok (Γ := gamX [] []) (mu := isRaw []) (H := H1036016) (J := J1036016) D_ok (gmX gm0) gamX_det rfl (yi := ⟨36, 16, [6]⟩) rfl (by kernel_rfl) (by kernel_rfl) (by kernel_rfl) (by rw [F1036016_eq g K] at h; exact h))
def rw1036016 : Raw := ⟨S1036016, O1036016, L1036016, 0, fun g K _ => F1036016 g K⟩
theorem rw1036016_ok : rw1036016.Ok Tryz.prog 1036016 := fun g K X h => F1036016_ok g K X h
set_option maxRecDepth 100000
def H46 : List (Nat × Hint) := [(19, ⟨[((3, []), none), ((3, [0]), none)], [(1, .leaf), (3, .pt 0 0), (4, .fn 88 [] [.pt 0 0]), (64, .leaf), (65, .leaf), (66, .leaf)], [.cells [.oa .ref 1], .arr .ref], [.pr .chg, .sl .idk, .int .i64, .int .i64, .sl .ref]⟩)]
def J46 : List (Nat × Hint) := [(1, ⟨[], [(1, .leaf)], [], [.pr .chg]⟩), (6, ⟨[((3, []), none)], [(1, .leaf), (3, .pt 0 0), (4, .fn 88 [] [.pt 0 0]), (10, .leaf), (11, .leaf)], [.cells [.nil]], [.pr .chg, .int .i64, .bool]⟩), (11, ⟨[((3, []), none)], [(1, .leaf), (3, .pt 0 0), (4, .fn 88 [] [.pt 0 0]), (24, .leaf)], [.cells [.nil]], [.pr .chg, .bool]⟩), (12, ⟨[((3, []), none), ((3, [0]), some .ref)], [(1, .leaf), (3, .pt 0 0), (4, .fn 88 [] [.pt 0 0])], [.cells [.oa .ref 1], .arr .ref], [.pr .chg, .sl .ref]⟩), (13, ⟨[((3, []), none), ((3, [0]), none)], [(1, .leaf), (3, .pt 0 0), (4, .fn 88 [] [.pt 0 0]), (39, .leaf)], [.cells [.oa .ref 1], .arr .ref], [.pr .chg, .bool, .sl .ref]⟩), (14, ⟨[((3, []), none), ((3, [0]), none)], [(1, .leaf), (3, .pt 0 0), (4, .fn 88 [] [.pt 0 0])], [.cells [.oa .ref 1], .arr .ref], [.pr .chg, .sl .ref]⟩), (15, ⟨[((3, []), none), ((3, [0]), none)], [(1, .leaf), (3, .pt 0 0), (4, .fn 88 [] [.pt 0 0]), (51, .leaf)], [.cells [.oa .ref 1], .arr .ref], [.pr .chg, .bool, .sl .ref]⟩), (18, ⟨[((3, []), none), ((3, [0]), none)], [(1, .leaf), (3, .pt 0 0), (4, .fn 88 [] [.pt 0 0])], [.cells [.oa .ref 1], .arr .ref], [.pr .chg, .sl .ref]⟩)]
abbrev S46 : List Sh := [.leaf]
abbrev L46 : List Lf := [.el .chg]
def F46_B20 (K : Kn) (W20 : prodL [.pr .chg, .sl .idk, .int .i64, .int .i64, .sl .ref] -> Prop) (c_19 : Chg) (t_19 : List Idn) (t2_19 t3_19 : Int) (out_19 : List Rfn) : Prop :=
 bif decide (t3_19 < t2_19) then (
  At t_19 t3_19 fun u21 =>
 let g22 : prodL [.el .idk, .fd, .sl .ref] := (u21, Fd.sup c_19, out_19, ());
 Room (g22.2.2.1.length + [(⟨g22.1, g22.2.1⟩ : Rfn)].length) 48 (
 W20 (c_19, t_19, t2_19, IntKind.i64.wrap (t3_19 + 1), g22.2.2.1 ++ [(⟨g22.1, g22.2.1⟩ : Rfn)], ())))
 else (
  K (.sl false .ref out_19) [])
def F46_L20 (K : Kn) (g : prodL [.pr .chg, .sl .idk, .int .i64, .int .i64, .sl .ref]) : Prop :=
 LoopW (γ := prodL [.pr .chg, .sl .idk, .int .i64, .int .i64, .sl .ref]) (fun V y => F46_B20 K V y.1 y.2.1 y.2.2.1 y.2.2.2.1 y.2.2.2.2.1) g
def F46_J23 (K : Kn) (c_18 : Chg) (out_18 : List Rfn) : Prop :=
 F46_L20 K (c_18, c_18.over, (c_18.over.length : Int), 0, out_18, ())
def F46_J17 (K : Kn) (c_14 : Chg) (t_14 : Bool) (out_14 : List Rfn) : Prop :=
 bif t_14 then (
  let g15 : prodL [.el .idk, .fd, .sl .ref] := (c_14.after, Fd.fin c_14, out_14, ());
  Room (g15.2.2.1.length + [(⟨g15.1, g15.2.1⟩ : Rfn)].length) 48 (
  let g16 : prodL [.el .idk, .fd, .sl .ref] := (c_14.before, Fd.fin c_14, g15.2.2.1 ++ [(⟨g15.1, g15.2.1⟩ : Rfn)], ());
  Room (g16.2.2.1.length + [(⟨g16.1, g16.2.1⟩ : Rfn)].length) 48 (
  F46_J23 K c_14 (g16.2.2.1 ++ [(⟨g16.1, g16.2.1⟩ : Rfn)]))))
 else (
  F46_J23 K c_14 out_14)
def F46_J24 (K : Kn) (c_13 : Chg) (out_13 : List Rfn) : Prop :=
 bif decide (c_13.kind = 5) then (
  F46_J17 K c_13 true out_13)
 else (
  F46_J17 K c_13 (decide (c_13.kind = 6)) out_13)
def F46_J12 (K : Kn) (c_10 : Chg) (t_10 : Bool) (out_10 : List Rfn) : Prop :=
 bif t_10 then (
  let g11 : prodL [.el .idk, .fd, .sl .ref] := (c_10.parent, Fd.dir, out_10, ());
  Room (g11.2.2.1.length + [(⟨g11.1, g11.2.1⟩ : Rfn)].length) 48 (
  F46_J24 K c_10 (g11.2.2.1 ++ [(⟨g11.1, g11.2.1⟩ : Rfn)])))
 else (
  F46_J24 K c_10 out_10)
def F46_J25 (K : Kn) (c_9 : Chg) (out_9 : List Rfn) : Prop :=
 bif decide (c_9.kind = 2) then (
  True /\
  F46_J12 K c_9 (!(idEq c_9.parent (⟨dz, -1⟩ : Idn))) out_9)
 else (
  F46_J12 K c_9 false out_9)
def F46_J7 (K : Kn) (c_5 : Chg) (t_5 : Bool) : Prop :=
 bif t_5 then (
    let g6 : prodL [.el .idk, .fd] := (c_5.file, Fd.txt, ());
    Room ([(⟨g6.1, g6.2.1⟩ : Rfn)].length) 48 (
    F46_J25 K c_5 [(⟨g6.1, g6.2.1⟩ : Rfn)]))
   else (
    F46_J25 K c_5 [])
def F46_J8 (K : Kn) (c_2 : Chg) (t_2 : Int) (t2_2 : Bool) : Prop :=
 bif t2_2 then (
  let g3 : prodL [.el .idk, .fd] := (c_2.file, Fd.file, ());
  Room ([(⟨g3.1, g3.2.1⟩ : Rfn)].length) 48 (
  F46_J25 K c_2 [(⟨g3.1, g3.2.1⟩ : Rfn)]))
 else (
  bif decide (t_2 = 4) then (
   let g4 : prodL [.el .idk, .fd] := (c_2.file, Fd.data, ());
   Room ([(⟨g4.1, g4.2.1⟩ : Rfn)].length) 48 (
   F46_J25 K c_2 [(⟨g4.1, g4.2.1⟩ : Rfn)]))
  else (
   bif decide (t_2 = 5) then (
    F46_J7 K c_2 true)
   else (
    F46_J7 K c_2 (decide (t_2 = 6)))))
def F46_J26 (K : Kn) (c_1 : Chg) : Prop :=
 bif decide (c_1.kind = 2) then (
  F46_J8 K c_1 c_1.kind true)
 else (
  F46_J8 K c_1 c_1.kind (decide (c_1.kind = 3)))
def F46 (g : prodL L46) (K : Kn) : Prop :=
 F46_J26 K g.1
theorem F46_eq (g : prodL L46) (K X : Kn) : F46 g K = dfun D (gamX [(88, rw88), (88, rw88n)] [(28, false, sp28)]) (isRaw [(88, rw88), (88, rw88n)]) H46 J46 76 [.tmp 2] (codeOf Tryz.f46) (argsT S46 L46 g) [] (settle0 K) X := by kernel_rfl
theorem F46_ok (g : prodL L46) (K X : Kn) (h : F46 g K) : FCalls Tryz.prog 46 (argsT S46 L46 g) [] K X :=
 FCalls.settle0 (dfun_sound (Γ := gamX [(88, rw88), (88, rw88n)] [(28, false, sp28)]) (mu := isRaw [(88, rw88), (88, rw88n)]) (H := H46) (J := J46) D_ok (gamX_ok (rs := [(88, rw88), (88, rw88n)]) (l := [(28, false, sp28)]) (by intro p hp; simp only [List.mem_cons, List.not_mem_nil, or_false] at hp; rcases hp with rfl | rfl <;> first | exact rw88_ok | exact rw88n_ok) (by intro p hp; simp only [List.mem_cons, List.not_mem_nil, or_false] at hp; subst hp; exact sp28_ok)) gamX_det rfl Tryz.func46 (c := codeOf Tryz.f46) rfl Tryz.ntmps46 Tryz.results46 (by unfold enters; rw [Tryz.func46]; kernel_rfl) (Nat.le_of_ble_eq_true (by kernel_rfl)) (c0 := 0) (Eq.mp (F46_eq g K X) h))
def H84 : List (Nat × Hint) := [(16, ⟨[], [(0, .fn 1036016 [] [.pt 0 0]), (2, .leaf), (4, .fn 85 [] [.leaf]), (93, .leaf), (94, .leaf), (95, .leaf)], [.cells [.oa .atm 1], .arr .atm], [.pr .chg, .pr .i64, .sl .str, .int .i64, .int .i64, .sl .atm]⟩), (23, ⟨[((8, []), none)], [(0, .fn 1036016 [] [.pt 0 0]), (2, .leaf), (4, .fn 85 [] [.leaf]), (7, .leaf), (8, .pt 2 0), (117, .leaf), (118, .leaf)], [.cells [.oa .atm 1], .arr .atm, .el], [.pr .chg, .pr .i64, .int .i64, .int .i64, .int .i64, .sl .atm, .el .idk]⟩)]
def J84 : List (Nat × Hint) := [(28, ⟨[((8, []), none), ((10, []), none)], [(0, .fn 1036016 [] [.pt 0 0]), (2, .leaf), (4, .fn 85 [] [.leaf]), (7, .leaf), (8, .pt 2 0), (9, .leaf), (10, .pt 3 0), (117, .leaf), (118, .leaf)], [.cells [.oa .atm 1], .arr .atm, .el, .el], [.pr .chg, .pr .i64, .int .i64, .int .i64, .int .i64, .int .i64, .sl .atm, .el .idk, .el .idk]⟩)]
abbrev S84 : List Sh := [.fn 1036016 [] [.pt 0 0], .leaf, .leaf]
abbrev L84 : List Lf := [.pr .i64, .pr .chg, .sl .atm]
abbrev O84 : List ObSh := [.cells [.oa .atm 1], .arr .atm]
def F84_J15 (K : Kn) (W12 : prodL [.pr .chg, .pr .i64, .int .i64, .int .i64, .int .i64, .sl .atm, .el .idk] -> Prop) (t_13 : Chg) (id_13 k_13 i_13 t2_13 t3_13 : Int) (o1_13 : List Atm) (from_13 to_13 : Idn) : Prop :=
 True /\
        let g14 : prodL [.el .atm, .sl .atm] := ((⟨(⟨dz, IntKind.i64.wrap (id_13 + (IntKind.i64.wrap (k_13 + i_13)))⟩ : Idn), 6, t_13.file, 0, iz, (⟨#[]⟩ : ByteArray), 0, (⟨#[]⟩ : ByteArray), (⟨#[]⟩ : ByteArray), from_13, to_13, []⟩ : Atm), o1_13, ());
        Room (g14.2.1.length + [g14.1].length) 296 (
        W12 (t_13, id_13, k_13, t2_13, IntKind.i64.wrap (t3_13 + 1), g14.2.1 ++ [g14.1], to_13, ()))
def F84_B12 (K : Kn) (W12 : prodL [.pr .chg, .pr .i64, .int .i64, .int .i64, .int .i64, .sl .atm, .el .idk] -> Prop) (t_11 : Chg) (id_11 k_11 t2_11 t3_11 : Int) (o1_11 : List Atm) (from_11 : Idn) : Prop :=
 bif decide (t3_11 < t2_11) then (
         bif decide (t3_11 < k_11) then (
         True /\
         F84_J15 K W12 t_11 id_11 k_11 t3_11 t2_11 t3_11 o1_11 from_11 (⟨dz, IntKind.i64.wrap (id_11 + t3_11)⟩ : Idn))
        else (
         F84_J15 K W12 t_11 id_11 k_11 t3_11 t2_11 t3_11 o1_11 from_11 t_11.before))
        else (
         K (.tu []) [some (.cells [.oa .atm 1 0]), some (.arr 0 .atm o1_11)])
def F84_L12 (K : Kn) (g : prodL [.pr .chg, .pr .i64, .int .i64, .int .i64, .int .i64, .sl .atm, .el .idk]) : Prop :=
 LoopW (γ := prodL [.pr .chg, .pr .i64, .int .i64, .int .i64, .int .i64, .sl .atm, .el .idk]) (fun V y => F84_B12 K V y.1 y.2.1 y.2.2.1 y.2.2.2.1 y.2.2.2.2.1 y.2.2.2.2.2.1 y.2.2.2.2.2.2.1) g
def F84_B8 (K : Kn) (W8 : prodL [.pr .chg, .pr .i64, .sl .str, .int .i64, .int .i64, .sl .atm] -> Prop) (t_7 : Chg) (id_7 : Int) (t2_7 : List ByteArray) (t3_7 t4_7 : Int) (o1_7 : List Atm) : Prop :=
 bif decide (t4_7 < t3_7) then (
         At t2_7 t4_7 fun u9 =>
        True /\
        let g10 : prodL [.el .atm, .sl .atm] := ((⟨(⟨dz, IntKind.i64.wrap (id_7 + t4_7)⟩ : Idn), 5, t_7.file, 0, iz, (⟨#[]⟩ : ByteArray), 0, (⟨#[]⟩ : ByteArray), u9, iz, iz, []⟩ : Atm), o1_7, ());
        Room (g10.2.1.length + [g10.1].length) 296 (
        W8 (t_7, id_7, t2_7, t3_7, IntKind.i64.wrap (t4_7 + 1), g10.2.1 ++ [g10.1], ())))
        else (
         F84_L12 K (t_7, id_7, (t_7.lines.length : Int), IntKind.i64.wrap ((t_7.lines.length : Int) + 1), 0, o1_7, t_7.after, ()))
def F84_L8 (K : Kn) (g : prodL [.pr .chg, .pr .i64, .sl .str, .int .i64, .int .i64, .sl .atm]) : Prop :=
 LoopW (γ := prodL [.pr .chg, .pr .i64, .sl .str, .int .i64, .int .i64, .sl .atm]) (fun V y => F84_B8 K V y.1 y.2.1 y.2.2.1 y.2.2.2.1 y.2.2.2.2.1 y.2.2.2.2.2.1) g
def F84 (g : prodL L84) (K : Kn) : Prop :=
 bif decide (g.2.1.kind = 1) then (
  True /\
  True /\
  let g1 : prodL [.el .atm, .sl .atm] := ((⟨(⟨dz, IntKind.i64.wrap (g.1 + 0)⟩ : Idn), 1, (⟨dz, IntKind.i64.wrap (g.1 + 0)⟩ : Idn), g.2.1.typ, iz, (⟨#[]⟩ : ByteArray), 0, (⟨#[]⟩ : ByteArray), (⟨#[]⟩ : ByteArray), iz, iz, []⟩ : Atm), g.2.2.1, ());
  Room (g1.2.1.length + [g1.1].length) 296 (
  K (.tu []) [some (.cells [.oa .atm 1 0]), some (.arr 0 .atm (g1.2.1 ++ [g1.1]))]))
 else (
  bif decide (g.2.1.kind = 2) then (
   True /\
   let g2 : prodL [.el .atm, .sl .atm] := ((⟨(⟨dz, IntKind.i64.wrap (g.1 + 0)⟩ : Idn), 2, g.2.1.file, 0, g.2.1.parent, g.2.1.name, 0, (⟨#[]⟩ : ByteArray), (⟨#[]⟩ : ByteArray), iz, iz, g.2.1.over⟩ : Atm), g.2.2.1, ());
   Room (g2.2.1.length + [g2.1].length) 296 (
   K (.tu []) [some (.cells [.oa .atm 1 0]), some (.arr 0 .atm (g2.2.1 ++ [g2.1]))]))
  else (
   bif decide (g.2.1.kind = 3) then (
    True /\
    let g3 : prodL [.el .atm, .sl .atm] := ((⟨(⟨dz, IntKind.i64.wrap (g.1 + 0)⟩ : Idn), 3, g.2.1.file, 0, iz, (⟨#[]⟩ : ByteArray), g.2.1.mode, (⟨#[]⟩ : ByteArray), (⟨#[]⟩ : ByteArray), iz, iz, g.2.1.over⟩ : Atm), g.2.2.1, ());
    Room (g3.2.1.length + [g3.1].length) 296 (
    K (.tu []) [some (.cells [.oa .atm 1 0]), some (.arr 0 .atm (g3.2.1 ++ [g3.1]))]))
   else (
    bif decide (g.2.1.kind = 4) then (
     True /\
     let g4 : prodL [.el .atm, .sl .atm] := ((⟨(⟨dz, IntKind.i64.wrap (g.1 + 0)⟩ : Idn), 4, g.2.1.file, 0, iz, (⟨#[]⟩ : ByteArray), 0, g.2.1.data, (⟨#[]⟩ : ByteArray), iz, iz, g.2.1.over⟩ : Atm), g.2.2.1, ());
     Room (g4.2.1.length + [g4.1].length) 296 (
     K (.tu []) [some (.cells [.oa .atm 1 0]), some (.arr 0 .atm (g4.2.1 ++ [g4.1]))]))
    else (
     bif decide (g.2.1.kind = 6) then (
      True /\
      let g5 : prodL [.el .atm, .sl .atm] := ((⟨(⟨dz, IntKind.i64.wrap (g.1 + 0)⟩ : Idn), 6, g.2.1.file, 0, iz, (⟨#[]⟩ : ByteArray), 0, (⟨#[]⟩ : ByteArray), (⟨#[]⟩ : ByteArray), g.2.1.after, g.2.1.before, g.2.1.over⟩ : Atm), g.2.2.1, ());
      Room (g5.2.1.length + [g5.1].length) 296 (
      K (.tu []) [some (.cells [.oa .atm 1 0]), some (.arr 0 .atm (g5.2.1 ++ [g5.1]))]))
     else (
      bif decide (g.2.1.kind = 7) then (
       True /\
       let g6 : prodL [.el .atm, .sl .atm] := ((⟨(⟨dz, IntKind.i64.wrap (g.1 + 0)⟩ : Idn), 7, iz, 0, iz, (⟨#[]⟩ : ByteArray), 0, (⟨#[]⟩ : ByteArray), (⟨#[]⟩ : ByteArray), iz, iz, g.2.1.over⟩ : Atm), g.2.2.1, ());
       Room (g6.2.1.length + [g6.1].length) 296 (
       K (.tu []) [some (.cells [.oa .atm 1 0]), some (.arr 0 .atm (g6.2.1 ++ [g6.1]))]))
      else (
       bif decide (g.2.1.kind = 5) then (
        F84_L8 K (g.2.1, g.1, g.2.1.lines, (g.2.1.lines.length : Int), 0, g.2.2.1, ()))
       else (
        K (.tu []) [some (.cells [.oa .atm 1 0]), some (.arr 0 .atm g.2.2.1)])))))))
theorem F84_eq (g : prodL L84) (K X : Kn) : F84 g K = dfun D (gamX [(1036016, rw1036016)] [(85, false, sp85)]) (isRaw [(1036016, rw1036016)]) H84 J84 144 [] (codeOf Tryz.f84) (argsT S84 L84 g) (storeT S84 O84 L84 g) (settleD (storeT S84 O84 L84 g).length 0 K) X 0 := by kernel_rfl
theorem F84_ok (g : prodL L84) (K X : Kn) (h : F84 g K) : FCalls Tryz.prog 84 (argsT S84 L84 g) (storeT S84 O84 L84 g) K X 0 :=
 FCalls.settleD (dfun_sound (Γ := gamX [(1036016, rw1036016)] [(85, false, sp85)]) (mu := isRaw [(1036016, rw1036016)]) (H := H84) (J := J84) D_ok (gamX_ok (rs := [(1036016, rw1036016)]) (l := [(85, false, sp85)]) (by intro p hp; simp only [List.mem_cons, List.not_mem_nil, or_false] at hp; subst hp; exact rw1036016_ok) (by intro p hp; simp only [List.mem_cons, List.not_mem_nil, or_false] at hp; subst hp; exact sp85_ok)) gamX_det rfl Tryz.func84 (c := codeOf Tryz.f84) rfl Tryz.ntmps84 (rs := []) Tryz.results84 (by unfold enters; rw [Tryz.func84]; kernel_rfl) (Nat.le_of_ble_eq_true (by kernel_rfl)) (X := X) (c0 := 0) (Eq.mp (F84_eq g K X) h))
end Go.Proofs.YtbglndogddddoaaGreatDoor
namespace Go.Proofs.YtbglndogddddoaaGreatDoor
open Go.RowKit
set_option maxRecDepth 100000
theorem w40 {n : Int} (h : 0 <= n /\ n <= 4398046511104) : IntKind.i64.wrap n = n := wrap64 (by omega) (by omega)
abbrev KR (K : Kn) : List Rfn -> Prop := fun l => K (.sl false .ref l) []
theorem F46_J23_is {c : Chg} {out : List Rfn} {K : Kn} (hl : c.over.length <= 4194304) (ho : out.length <= 16) (h : KR K (out ++ supL c)) : F46_J23 K c out := by
 unfold F46_J23 F46_L20
 refine LoopW.map c.over (fun x => (⟨x, Fd.sup c⟩ : Rfn)) (fun n o => (c, c.over, (c.over.length : Int), n, out ++ o, ())) (by omega) (by rw [List.append_nil]) (fun W n hn o hlen hW => ?_) fun W => ?_
 . show F46_B20 K W c c.over c.over.length n (out ++ o)
   unfold F46_B20
   rw [lt_true hn, cond_true]
   refine At_of hn ?_
   rw [<- List.append_assoc] at hW
   exact ⟨by simp only [List.length_singleton, List.length_append, hlen]; omega, hW⟩
 . show F46_B20 K W c c.over c.over.length c.over.length (out ++ c.over.map fun x => (⟨x, Fd.sup c⟩ : Rfn))
   unfold F46_B20
   rw [lt_false, cond_false]; exact h
theorem F46_J17_is {c : Chg} {t : Bool} {out : List Rfn} {K : Kn} (hl : c.over.length <= 4194304) (ho : out.length <= 8) (h : KR K (rL17 c t out)) : F46_J17 K c t out := by
 unfold F46_J17
 unfold rL17 at h
 cases t
 . exact F46_J23_is hl (by omega) h
 . refine ⟨by simp only [List.length_singleton]; omega, by simp only [List.length_singleton, List.length_append]; omega, F46_J23_is hl (by simp only [List.length_singleton, List.length_append]; omega) h⟩
theorem F46_J24_is {c : Chg} {out : List Rfn} {K : Kn} (hl : c.over.length <= 4194304) (ho : out.length <= 8) (h : KR K (rL24 c out)) : F46_J24 K c out :=
 bifJ (J := fun b => F46_J17 K c b out) (f := fun b => rL17 c b out) (K := KR K) (fun _ h => F46_J17_is hl ho h) h
theorem F46_J12_is {c : Chg} {t : Bool} {out : List Rfn} {K : Kn} (hl : c.over.length <= 4194304) (ho : out.length <= 4) (h : KR K (rL12 c t out)) : F46_J12 K c t out := by
 unfold F46_J12
 unfold rL12 at h
 cases t
 . exact F46_J24_is hl (by omega) h
 . exact ⟨by simp only [List.length_singleton]; omega, F46_J24_is hl (by simp only [List.length_singleton, List.length_append]; omega) h⟩
theorem F46_J25_is {c : Chg} {out : List Rfn} {K : Kn} (hl : c.over.length <= 4194304) (ho : out.length <= 4) (h : KR K (rL25 c out)) : F46_J25 K c out := by
 unfold F46_J25
 unfold rL25 at h
 cases e : decide (c.kind = 2)
 . rw [e] at h; exact F46_J12_is hl ho h
 . rw [e] at h; exact ⟨trivial, F46_J12_is hl ho h⟩
theorem F46_J7_is {c : Chg} {t : Bool} {K : Kn} (hl : c.over.length <= 4194304) (h : KR K (rL7 c t)) : F46_J7 K c t := by
 unfold F46_J7
 unfold rL7 at h
 cases t
 . exact F46_J25_is hl (Nat.le_of_ble_eq_true rfl) h
 . exact ⟨Nat.le_of_ble_eq_true rfl, F46_J25_is hl (Nat.le_of_ble_eq_true rfl) h⟩
theorem F46_J8_is {c : Chg} {k : Int} {t : Bool} {K : Kn} (hl : c.over.length <= 4194304) (h : KR K (rL8 c k t)) : F46_J8 K c k t := by
 unfold F46_J8
 unfold rL8 at h
 cases t
 . rw [cond_false] at h ⊢
   cases e : decide (k = 4)
   . rw [e] at h
     exact bifJ (J := fun b => F46_J7 K c b) (f := fun b => rL7 c b) (K := KR K) (fun _ h => F46_J7_is hl h) h
   . rw [e] at h
     exact ⟨Nat.le_of_ble_eq_true rfl, F46_J25_is hl (Nat.le_of_ble_eq_true rfl) h⟩
 . exact ⟨Nat.le_of_ble_eq_true rfl, F46_J25_is hl (Nat.le_of_ble_eq_true rfl) h⟩
theorem F46_is {c : Chg} {K : Kn} (hl : c.over.length <= 4194304) (h : KR K (refsC c)) : F46 (c, ()) K :=
 bifJ (J := fun b => F46_J8 K c c.kind b) (f := fun b => rL8 c c.kind b) (K := KR K) (fun _ h => F46_J8_is hl h) h
def sp46 : Sp := ⟨S46, L46, fun g => g.1.over.length <= 4194304, fun g => .sl false .ref (refsC g.1), fun _ => none⟩
theorem sp46_ok : sp46.Ok Tryz.prog 46 false :=
 ⟨fun g K X hp h => F46_ok g K X (F46_is hp h), fun _ _ _ => rfl, fun _ => rfl, fun h => (by cases h)⟩
abbrev KA (K : Kn) : List Atm -> Prop := fun l => K (.tu []) [some (.cells [.oa .atm 1 0]), some (.arr 0 .atm l)]
def frS (c : Chg) (n : Int) : Nat -> Idn
 | 0 => c.after
 | i + 1 => tilI c n i
theorem frS_frm {c : Chg} {n : Int} {i : Nat} (h : i <= c.lines.length) : frS c n i = frmI c n i := by
 cases i with
 | zero => rfl
 | succ i =>
  show tilI c n i = idO (n + i)
  unfold tilI
  rw [decide_eq_true (by omega), cond_true]
theorem lnI_at {c : Chg} {n : Int} {i : Nat} (h : i < c.lines.length) : lnI c n i = lnA c (n + i) c.lines[i] := by
 unfold lnI
 rw [List.getD_eq_getElem?_getD, getQ h]; rfl
theorem leI {n m : Nat} : decide ((n : Int) < (m : Int)) = decide (n < m) := by rw [decide_eq_decide]; omega
theorem F84_L8_is {c : Chg} {n : Int} {own : List Atm} {K : Kn} (hp : preM c n) (hl : own.length <= 16777216) (h : KA K (own ++ (lnsL c n ++ egsL c n))) : F84_L8 K (c, n, c.lines, (c.lines.length : Int), 0, own, ()) := by
 obtain ⟨hk, h1, h2, h3⟩ := hp
 unfold F84_L8
 refine LoopW.mapN c.lines.length (lnI c n) (fun i out => (c, n, c.lines, (c.lines.length : Int), (i : Int), own ++ out, ())) (by rw [List.append_nil]; rfl) (fun W i hi out ho hW => ?_) fun W => ?_
 . show F84_B8 K W c n c.lines c.lines.length i (own ++ out)
   unfold F84_B8
   rw [lt_true hi, cond_true]
   refine At_of hi ⟨trivial, by simp only [List.length_singleton, List.length_append, ho]; omega, ?_⟩
   rw [<- List.append_assoc, lnI_at hi] at hW
   rw [wrapS hi (by omega), w40 (by omega)]
   exact hW
 . show F84_B8 K W c n c.lines c.lines.length c.lines.length (own ++ lnsL c n)
   unfold F84_B8
   rw [lt_false, cond_false]
   unfold F84_L12
   have hlen : (own ++ lnsL c n).length <= 33554432 := by simp only [List.length_append, lnsL, List.length_map, List.length_range]; omega
   rw [<- List.append_assoc] at h
   generalize own ++ lnsL c n = l at hlen h
   refine LoopW.mapN (c.lines.length + 1) (egI c n) (fun i out => (c, n, (c.lines.length : Int), ((c.lines.length + 1 : Nat) : Int), (i : Int), l ++ out, frS c n i, ())) (by rw [List.append_nil, w64 (by omega)]; rfl) (fun W i hi out ho hW => ?_) fun W => ?_
   . show F84_B12 K W c n c.lines.length ((c.lines.length + 1 : Nat) : Int) i (l ++ out) (frS c n i)
     unfold F84_B12
     rw [lt_true hi, cond_true, leI]
     have hJ : F84_J15 K W c n c.lines.length i ((c.lines.length + 1 : Nat) : Int) i (l ++ out) (frS c n i) (tilI c n i) := by
      unfold F84_J15
      refine ⟨trivial, by simp only [List.length_singleton, List.length_append, ho]; omega, ?_⟩
      rw [<- List.append_assoc] at hW
      rw [wrapS hi (by omega), w40 (n := (c.lines.length : Int) + (i : Int)) (by omega), w40 (by omega)]
      have e : egI c n i = ⟨⟨dz, n + ((c.lines.length : Int) + (i : Int))⟩, 6, c.file, 0, iz, ⟨#[]⟩, 0, ⟨#[]⟩, ⟨#[]⟩, frS c n i, tilI c n i, []⟩ := by
       rw [frS_frm (by omega), <- Int.add_assoc]; rfl
      rw [e] at hW
      exact hW
     unfold tilI at hJ
     by_cases hlt : i < c.lines.length
     . rw [decide_eq_true hlt] at hJ ⊢
       rw [cond_true, w40 (n := n + (i : Int)) (by omega)]
       exact ⟨trivial, hJ⟩
     . rw [decide_eq_false hlt] at hJ ⊢
       exact hJ
   . show F84_B12 K W c n c.lines.length ((c.lines.length + 1 : Nat) : Int) ((c.lines.length + 1 : Nat) : Int) (l ++ egsL c n) (frS c n (c.lines.length + 1))
     unfold F84_B12
     rw [lt_false, cond_false]
     exact h
theorem F84_is {c : Chg} {n : Int} {own : List Atm} {K : Kn} (hp : preM c n) (hl : own.length <= 16777216) (h : KA K (own ++ madeL c n)) : F84 (n, c, own, ()) K := by
 have hp' := hp
 obtain ⟨hk, h1, h2, h3⟩ := hp'
 have hz : IntKind.i64.wrap (n + 0) = n := by rw [Int.add_zero, w40 (by omega)]
 have hr : (own.length + 1) * 296 <= 140737488355328 := by omega
 unfold F84
 dsimp only
 simp only [hz]
 obtain ⟨kind, file, typ, parent, name, mode, data, after, before, lines, over⟩ := c
 have hk1 : (1 : Int) <= kind /\ kind <= 7 := hk
 have : kind = 1 ∨ kind = 2 ∨ kind = 3 ∨ kind = 4 ∨ kind = 5 ∨ kind = 6 ∨ kind = 7 := by omega
 rcases this with rfl | rfl | rfl | rfl | rfl | rfl | rfl
 . exact ⟨trivial, trivial, hr, h⟩
 . show True /\ Room _ _ _
   exact ⟨trivial, hr, h⟩
 . show True /\ Room _ _ _
   exact ⟨trivial, hr, h⟩
 . show True /\ Room _ _ _
   exact ⟨trivial, hr, h⟩
 . exact F84_L8_is hp hl h
 . show True /\ Room _ _ _
   exact ⟨trivial, hr, h⟩
 . show True /\ Room _ _ _
   exact ⟨trivial, hr, h⟩
def rw84 : Raw := ⟨S84, O84, L84, 0, fun g K _ => pre84 g /\ K (.tu []) [some (.cells [.oa .atm 1 0]), some (.arr 0 .atm (g.2.2.1 ++ madeL g.2.1 g.1))]⟩
theorem rw84_ok : rw84.Ok Tryz.prog 84 := fun g K X h => F84_ok g K X (F84_is h.1.1 h.1.2 h.2)
end Go.Proofs.YtbglndogddddoaaGreatDoor
namespace Go.Proofs.YtbglndogddddoaaGreatDoor
open Go.RowKit
attribute [local irreducible] dfun dround
set_option maxRecDepth 100000
def H69 : List (Nat × Hint) := [(2, ⟨[((2, []), none)], [(1, .leaf), (2, .pt 0 0), (8, .leaf), (9, .leaf), (10, .leaf)], [.el], [.sl .atm, .sl .ref, .int .i64, .int .i64, .el .chg]⟩)]
def J69 : List (Nat × Hint) := [(6, ⟨[((2, []), none), ((6, []), none)], [(1, .leaf), (2, .pt 0 0), (6, .pt 1 0), (8, .leaf), (9, .leaf), (10, .leaf), (14, .leaf)], [.el, .el], [.sl .atm, .sl .ref, .int .i64, .int .i64, .bool, .el .chg, .el .ref]⟩), (7, ⟨[((2, []), none), ((6, []), none)], [(1, .leaf), (2, .pt 0 0), (6, .pt 1 0), (8, .leaf), (9, .leaf), (10, .leaf), (14, .leaf)], [.el, .el], [.sl .atm, .sl .ref, .int .i64, .int .i64, .bool, .el .chg, .el .ref]⟩), (9, ⟨[((2, []), none)], [(1, .leaf), (2, .pt 0 0), (8, .leaf), (9, .leaf), (10, .leaf), (34, .leaf)], [.el], [.sl .atm, .sl .ref, .int .i64, .int .i64, .bool, .el .chg]⟩), (12, ⟨[((2, []), none)], [(2, .pt 0 0), (51, .leaf)], [.el], [.bool, .el .chg]⟩), (14, ⟨[((2, []), none)], [(2, .pt 0 0), (62, .leaf)], [.el], [.bool, .el .chg]⟩), (15, ⟨[], [(62, .leaf)], [], [.bool]⟩)]
abbrev S69 : List Sh := [.leaf, .leaf]
abbrev L69 : List Lf := [.el .chg, .sl .atm]
def F69_J11 (K : Kn) (W2 : prodL [.sl .atm, .sl .ref, .int .i64, .int .i64, .el .chg] -> Prop) (atoms_10 : List Atm) (t_10 : List Rfn) (t2_10 t3_10 : Int) (t4_10 : Bool) (c_10 : Chg) : Prop :=
 bif t4_10 then (
   K (.int .i64 8) [])
  else (
   W2 (atoms_10, t_10, t2_10, IntKind.i64.wrap (t3_10 + 1), c_10, ()))
def F69_J12 (K : Kn) (W2 : prodL [.sl .atm, .sl .ref, .int .i64, .int .i64, .el .chg] -> Prop) (atoms_6 : List Atm) (t_6 : List Rfn) (t2_6 t3_6 : Int) (t4_6 : Bool) (c_6 : Chg) (r_6 : Rfn) : Prop :=
 bif t4_6 then (
  K (.int .i64 7) [])
 else (
  True /\
  bif ownB r_6.id then (
   At atoms_6 r_6.id.n fun u7 =>
   fdGo r_6.fits (
    True /\
    F69_J11 K W2 atoms_6 t_6 t2_6 t3_6 (!(decide (u7.kind = 1))) c_6)
   (
    True /\
    F69_J11 K W2 atoms_6 t_6 t2_6 t3_6 (!(fitDa u7)) c_6)
   (
    True /\
    F69_J11 K W2 atoms_6 t_6 t2_6 t3_6 (!(fitTx u7)) c_6)
   (
    True /\
    F69_J11 K W2 atoms_6 t_6 t2_6 t3_6 (!(fitDi u7)) c_6)
   (fun c8 =>
    True /\
    F69_J11 K W2 atoms_6 t_6 t2_6 t3_6 (!(fitEn u7 c8)) c_6)
   (fun c9 =>
    True /\
    F69_J11 K W2 atoms_6 t_6 t2_6 t3_6 (!(fitSu u7 c9)) c_6))
  else (
   F69_J11 K W2 atoms_6 t_6 t2_6 t3_6 false c_6))
def F69_J5 (K : Kn) (W2 : prodL [.sl .atm, .sl .ref, .int .i64, .int .i64, .el .chg] -> Prop) (atoms_4 : List Atm) (t_4 : List Rfn) (t2_4 t3_4 : Int) (t4_4 : Bool) (c_4 : Chg) (r_4 : Rfn) : Prop :=
 bif t4_4 then (
   F69_J12 K W2 atoms_4 t_4 t2_4 t3_4 true c_4 r_4)
  else (
   F69_J12 K W2 atoms_4 t_4 t2_4 t3_4 (decide (100000 <= r_4.id.n)) c_4 r_4)
def F69_J17 (K : Kn) (t_16 : Bool) : Prop :=
 bif t_16 then (
   K (.int .i64 1) [])
  else (
   K (.int .i64 0) [])
def F69_J15 (K : Kn) (t_14 : Bool) (c_14 : Chg) : Prop :=
 bif t_14 then (
   F69_J17 K true)
  else (
   bif decide (c_14.kind = 5) then (
    bif idEq c_14.after c_14.before then (
     F69_J17 K (!(idEq c_14.after c_14.file)))
    else (
     F69_J17 K false))
   else (
    F69_J17 K false))
def F69_J18 (K : Kn) (t_13 : Bool) (c_13 : Chg) : Prop :=
 bif t_13 then (
  K (.int .i64 20) [])
 else (
  bif decide (c_13.kind = 6) then (
   F69_J15 K (idEq c_13.after c_13.before) c_13)
  else (
   F69_J15 K false c_13))
def F69_B2 (K : Kn) (W2 : prodL [.sl .atm, .sl .ref, .int .i64, .int .i64, .el .chg] -> Prop) (atoms_1 : List Atm) (t_1 : List Rfn) (t2_1 t3_1 : Int) (c_1 : Chg) : Prop :=
 bif decide (t3_1 < t2_1) then (
  At t_1 t3_1 fun u3 =>
 bif decide (u3.id.n < 0) then (
  F69_J12 K W2 atoms_1 t_1 t2_1 t3_1 true c_1 u3)
 else (
  True /\
  bif ownB u3.id then (
   F69_J5 K W2 atoms_1 t_1 t2_1 t3_1 (decide ((atoms_1.length : Int) <= u3.id.n)) c_1 u3)
  else (
   F69_J5 K W2 atoms_1 t_1 t2_1 t3_1 false c_1 u3)))
 else (
  bif decide (c_1.kind = 2) then (
  F69_J18 K (idEq c_1.parent c_1.file) c_1)
 else (
  F69_J18 K false c_1))
def F69_L2 (K : Kn) (g : prodL [.sl .atm, .sl .ref, .int .i64, .int .i64, .el .chg]) : Prop :=
 LoopW (γ := prodL [.sl .atm, .sl .ref, .int .i64, .int .i64, .el .chg]) (fun V y => F69_B2 K V y.1 y.2.1 y.2.2.1 y.2.2.2.1 y.2.2.2.2.1) g
def F69 (g : prodL L69) (K : Kn) : Prop :=
 sp46.pre (g.1, ()) /\
 F69_L2 K (g.2.1, refsC g.1, (((refsC g.1).length : Nat) : Int), 0, g.1, ())
theorem F69_eq (g : prodL L69) (K X : Kn) : F69 g K = dfun D (gamX [] [(46, false, sp46), (47, true, sp47), (89, false, sp89), (90, true, sp90), (91, true, sp91), (92, true, sp92), (93, true, sp93), (94, true, sp94)]) (isRaw []) H69 J69 90 [.tmp 4] (codeOf Tryz.f69) (argsT S69 L69 g) [] (settle0 K) X := by kernel_rfl
theorem F69_ok (g : prodL L69) (K X : Kn) (h : F69 g K) : FCalls Tryz.prog 69 (argsT S69 L69 g) [] K X :=
 FCalls.settle0 (dfun_sound D_ok (gmX (gmc sp46_ok (gmc sp47_ok (gmc sp89_ok (gmc sp90_ok (gmc sp91_ok (gmc sp92_ok (gmc sp93_ok (gmc sp94_ok gm0))))))))) gamX_det rfl Tryz.func69 (c := codeOf Tryz.f69) rfl Tryz.ntmps69 Tryz.results69 (by unfold enters; rw [Tryz.func69]; kernel_rfl) (Nat.le_of_ble_eq_true (by kernel_rfl)) (c0 := 0) (Eq.mp (F69_eq g K X) h))
end Go.Proofs.YtbglndogddddoaaGreatDoor
namespace Go.Proofs.YtbglndogddddoaaGreatDoor
open Go.RowKit
set_option maxRecDepth 100000
def refE2 (own : List Atm) (b : Bool) (r : Rfn) : Int := bif b then 7 else bif (bif ownB r.id then !(fitFd r.fits (own.getD r.id.n.toNat az)) else false) then 8 else 0
theorem F69_J12_is {K : Kn} {W : prodL [.sl .atm, .sl .ref, .int .i64, .int .i64, .el .chg] -> Prop} {own : List Atm} {l : List Rfn} {m n : Int} {b : Bool} {c : Chg} {r : Rfn}
  (hb : b = false -> ownB r.id = true -> 0 <= r.id.n /\ r.id.n < (own.length : Int)) (h0 : refE2 own b r = 0 -> W (own, l, m, IntKind.i64.wrap (n + 1), c, ())) (h1 : refE2 own b r ≠ 0 -> KI K (refE2 own b r)) : F69_J12 K W own l m n b c r := by
 unfold F69_J12
 cases b
 rotate_left
 . exact h1 (show (7 : Int) ≠ 0 by decide)
 refine ⟨trivial, ?_⟩
 have hJ : ∀ t : Bool, ((bif t then (8 : Int) else 0) = 0 -> W (own, l, m, IntKind.i64.wrap (n + 1), c, ())) -> ((bif t then (8 : Int) else 0) ≠ 0 -> KI K (bif t then 8 else 0)) -> F69_J11 K W own l m n t c := by
  intro t h0 h1
  unfold F69_J11
  cases t
  . exact h0 rfl
  . exact h1 (show (8 : Int) ≠ 0 by decide)
 unfold refE2 at h0 h1
 rw [cond_false] at h0 h1
 cases e : ownB r.id
 . rw [e] at h0 h1
   exact hJ false h0 h1
 . rw [e] at h0 h1
   rw [cond_true] at h0 h1 ⊢
   obtain ⟨n0, n1⟩ := hb rfl e
   have hn : r.id.n.toNat < own.length := by omega
   rw [List.getD_eq_getElem?_getD, getQ hn] at h0 h1
   refine ⟨n0, own[r.id.n.toNat], getQ hn, ?_⟩
   obtain ⟨id, fits⟩ := r
   cases fits with
   | file => exact ⟨trivial, hJ _ h0 h1⟩
   | data => exact ⟨trivial, hJ _ h0 h1⟩
   | txt => exact ⟨trivial, hJ _ h0 h1⟩
   | dir => exact ⟨trivial, hJ _ h0 h1⟩
   | fin c => exact ⟨trivial, hJ _ h0 h1⟩
   | sup c => exact ⟨trivial, hJ _ h0 h1⟩
theorem F69_J18_is {c : Chg} {K : Kn} (h : KI K (lastP c)) : (bif decide (c.kind = 2) then F69_J18 K (idEq c.parent c.file) c else F69_J18 K false c) := by
 have h17 : ∀ b : Bool, KI K (bif b then 1 else 0) -> F69_J17 K b := fun b => by unfold F69_J17; exact bifT (K := KI K) id id
 have h15 : ∀ b, KI K (lastP15 b c) -> F69_J15 K b c := by
  intro b h
  unfold F69_J15
  unfold lastP15 at h
  cases b
  rotate_left
  . exact h17 true h
  rw [cond_false] at h ⊢
  cases e1 : decide (c.kind = 5)
  . rw [e1] at h; exact h17 false h
  . rw [e1] at h
    exact bifJ (J := F69_J17 K) (f := fun b : Bool => bif b then (1 : Int) else 0) (K := KI K) h17 h
 have h18 : ∀ b, KI K (lastP18 b c) -> F69_J18 K b c := by
  intro b h
  unfold F69_J18
  unfold lastP18 at h
  cases b
  rotate_left
  . exact h
  exact bifJ (J := fun b => F69_J15 K b c) (f := fun b => lastP15 b c) (K := KI K) h15 h
 exact bifJ (J := fun b => F69_J18 K b c) (f := fun b => lastP18 b c) (K := KI K) h18 h
theorem refsC_len {c : Chg} (hl : c.over.length <= 4194304) : (refsC c).length <= 4194400 := by
 have hs : (supL c).length = c.over.length := by simp [supL]
 have h17 : ∀ t out, (rL17 c t out).length <= out.length + 2 + c.over.length := fun t out => by
  unfold rL17; cases t <;> simp only [cond_true, cond_false, List.length_append, hs, List.length_singleton] <;> omega
 have h12 : ∀ t out, (rL12 c t out).length <= out.length + 3 + c.over.length := fun t out => by
  unfold rL12; cases t
  . have := h17 (bif decide (c.kind = 5) then true else decide (c.kind = 6)) out; simp only [cond_false, rL24]; omega
  . have := h17 (bif decide (c.kind = 5) then true else decide (c.kind = 6)) (out ++ [⟨c.parent, Fd.dir⟩]); simp only [cond_true, rL24, List.length_append, List.length_singleton] at this ⊢; omega
 have h25 : ∀ out, (rL25 c out).length <= out.length + 3 + c.over.length := fun out => h12 _ _
 have h7 : ∀ t, (rL7 c t).length <= 4 + c.over.length := fun t => by
  unfold rL7; cases t
  . have := h25 []; simp only [cond_false, List.length_nil] at this ⊢; omega
  . have := h25 [⟨c.file, Fd.txt⟩]; simp only [cond_true, List.length_singleton] at this ⊢; omega
 have h8 : ∀ k t, (rL8 c k t).length <= 4 + c.over.length := fun k t => by
  unfold rL8; cases t
  . rw [cond_false]
    cases decide (k = 4)
    . exact h7 _
    . have := h25 [⟨c.file, Fd.data⟩]; simp only [cond_true, List.length_singleton] at this ⊢; omega
  . have := h25 [⟨c.file, Fd.file⟩]; simp only [cond_true, List.length_singleton] at this ⊢; omega
 have := h8 c.kind (bif decide (c.kind = 2) then true else decide (c.kind = 3))
 unfold refsC
 omega
theorem F69_is {c : Chg} {own : List Atm} {K : Kn} (hl : c.over.length <= 4194304) (h : KI K (refsP c own)) : F69 (c, own, ()) K := by
 unfold F69
 refine ⟨hl, ?_⟩
 have hN := refsC_len hl
 unfold F69_L2
 unfold refsP at h
 have hlen : ((refsC c).map (refE own)).length = (refsC c).length := by simp
 refine LoopW.errs ((refsC c).map (refE own)) (fun n => (own, refsC c, (((refsC c).length : Nat) : Int), (n : Int), c, ())) (fun e => KI K (bif !decide (e = 0) then e else lastP c)) h rfl (fun W n hn h0 h1 => ?_) fun h W => ?_
 . rw [hlen] at hn
   show F69_B2 K W own (refsC c) (refsC c).length n c
   unfold F69_B2
   rw [lt_true hn, cond_true]
   refine At_of hn ?_
   simp only [List.getElem_map] at h0 h1
   generalize (refsC c)[n] = r at h0 h1 ⊢
   rw [<- wrapS hn (by omega)] at h0
   have h1 : refE own r ≠ 0 -> KI K (refE own r) := fun z => by
    have := h1 z
    rw [decide_eq_false z] at this; exact this
   unfold refE at h0 h1
   cases e1 : decide (r.id.n < 0)
   . rw [e1] at h0 h1
     rw [cond_false] at h0 h1 ⊢
     have hn0 : 0 <= r.id.n := by have := of_decide_eq_false e1; omega
     refine ⟨trivial, ?_⟩
     have h5 : ∀ b, (b = false -> ownB r.id = true -> r.id.n < (own.length : Int)) -> (refE2 own (bif b then true else decide (100000 <= r.id.n)) r = 0 -> W (own, refsC c, (((refsC c).length : Nat) : Int), IntKind.i64.wrap ((n : Int) + 1), c, ())) -> (refE2 own (bif b then true else decide (100000 <= r.id.n)) r ≠ 0 -> KI K (refE2 own (bif b then true else decide (100000 <= r.id.n)) r)) -> F69_J5 K W own (refsC c) (((refsC c).length : Nat) : Int) n b c r := by
      intro b hb h0 h1
      unfold F69_J5
      cases b
      . exact F69_J12_is (fun _ e => ⟨hn0, hb rfl e⟩) h0 h1
      . exact F69_J12_is (fun e => by cases e) h0 h1
     cases e2 : ownB r.id
     . rw [e2] at h0 h1
       refine h5 false (fun _ e => by rw [e2] at e; cases e) ?_ ?_
       . unfold refE2; rw [e2]; exact h0
       . unfold refE2; rw [e2]; exact h1
     . rw [e2] at h0 h1
       refine h5 _ (fun e _ => by have := of_decide_eq_false e; omega) ?_ ?_
       . unfold refE2; rw [e2]; exact h0
       . unfold refE2; rw [e2]; exact h1
   . rw [e1] at h0 h1
     exact F69_J12_is (fun e => by cases e) h0 h1
 . rw [hlen]
   show F69_B2 K W own (refsC c) (refsC c).length (refsC c).length c
   unfold F69_B2
   rw [lt_false, cond_false]
   exact F69_J18_is h
def sp69 : Sp := ⟨S69, L69, fun g => g.1.over.length <= 4194304, fun g => .int .i64 (refsP g.1 g.2.1), fun _ => none⟩
theorem sp69_ok : sp69.Ok Tryz.prog 69 true :=
 ⟨fun g K X hp h => F69_ok g K X (F69_is hp h), fun _ _ _ => rfl, fun _ => rfl, fun _ _ => ⟨rfl, rfl⟩⟩
end Go.Proofs.YtbglndogddddoaaGreatDoor
namespace Go.Proofs.YtbglndogddddoaaGreatDoor
open Go.RowKit
attribute [local irreducible] dfun dround
set_option maxRecDepth 100000
def H36 : List (Nat × Hint) := [(6, ⟨[((1, []), none), ((6, []), none), ((6, [0]), some .atm)], [(1, .pt 0 0), (6, .pt 1 0), (20, .leaf), (21, .leaf), (22, .leaf)], [.cells [.leaf, .leaf, .leaf, .leaf, .leaf], .cells [.oa .atm 2], .arr .atm], [.sl .chg, .int .i64, .int .i64, .str, .str, .int .i64, .sl .dig, .sl .chg, .sl .atm]⟩)]
def J36 : List (Nat × Hint) := [(20, ⟨[((6, []), none), ((6, [0]), none)], [(6, .pt 0 0), (12, .leaf), (58, .leaf)], [.cells [.oa .atm 1], .arr .atm], [.str, .bool, .sl .atm]⟩)]
abbrev S36 : List Sh := [.ag [.leaf, .leaf, .leaf, .leaf, .leaf]]
abbrev L36 : List Lf := [.str, .str, .int .i64, .sl .dig, .sl .chg]
abbrev O36 : List ObSh := []
def F36_J5 (K : Kn) (s_4 : ByteArray) (t_4 : Bool) (atoms_4 : List Atm) : Prop :=
 bif t_4 then (
  K (.tu [.nil, .str (⟨#[]⟩ : ByteArray), .int .i64 4]) [])
 else (
  K (.tu [.oa .atm 0 0, .str s_4, .int .i64 0]) [some (.arr 0 .atm atoms_4)])
def F36_B2 (K : Kn) (W2 : prodL [.sl .chg, .int .i64, .int .i64, .str, .str, .int .i64, .sl .dig, .sl .chg, .sl .atm] -> Prop) (t_1 : List Chg) (t2_1 t3_1 : Int) (p1_1 p2_1 : ByteArray) (p3_1 : Int) (p4_1 : List Dig) (p5_1 : List Chg) (atoms_1 : List Atm) : Prop :=
 bif decide (t3_1 < t2_1) then (
  At t_1 t3_1 fun u3 =>
 sp68.pre (u3, ()) /\
 bif !decide (fieldsP u3 = 0) then (
  K (.tu [.nil, .str (⟨#[]⟩ : ByteArray), .int .i64 (fieldsP u3)]) [])
 else (
  sp69.pre (u3, atoms_1, ()) /\
 bif !decide (refsP u3 atoms_1 = 0) then (
  K (.tu [.nil, .str (⟨#[]⟩ : ByteArray), .int .i64 (refsP u3 atoms_1)]) [])
 else (
  True /\
 pre84 ((atoms_1.length : Int), u3, atoms_1, ()) /\
 W2 (t_1, t2_1, IntKind.i64.wrap (t3_1 + 1), p1_1, p2_1, p3_1, p4_1, p5_1, atoms_1 ++ madeL u3 (atoms_1.length : Int), ()))))
 else (
  sp70.pre (p1_1, p2_1, p3_1, p4_1, p5_1, ()) /\
 bif !decide ((enT (patX p1_1 p2_1 p3_1 (patD p4_1) p5_1)).2 = 0) then (
  F36_J5 K ((enT (patX p1_1 p2_1 p3_1 (patD p4_1) p5_1)).1) true atoms_1)
 else (
  F36_J5 K ((enT (patX p1_1 p2_1 p3_1 (patD p4_1) p5_1)).1) (decide (65536 < (((enT (patX p1_1 p2_1 p3_1 (patD p4_1) p5_1)).1).size : Int))) atoms_1))
def F36_L2 (K : Kn) (g : prodL [.sl .chg, .int .i64, .int .i64, .str, .str, .int .i64, .sl .dig, .sl .chg, .sl .atm]) : Prop :=
 LoopW (γ := prodL [.sl .chg, .int .i64, .int .i64, .str, .str, .int .i64, .sl .dig, .sl .chg, .sl .atm]) (fun V y => F36_B2 K V y.1 y.2.1 y.2.2.1 y.2.2.2.1 y.2.2.2.2.1 y.2.2.2.2.2.1 y.2.2.2.2.2.2.1 y.2.2.2.2.2.2.2.1 y.2.2.2.2.2.2.2.2.1) g
def F36 (g : prodL L36) (K : Kn) : Prop :=
 sp67.pre (g.1, g.2.1, g.2.2.1, g.2.2.2.1, g.2.2.2.2.1, ()) /\
 bif !decide (headB digC g.1 g.2.1 g.2.2.1 g.2.2.2.1 g.2.2.2.2.1 = 0) then (
  K (.tu [.nil, .str (⟨#[]⟩ : ByteArray), .int .i64 (headB digC g.1 g.2.1 g.2.2.1 g.2.2.2.1 g.2.2.2.2.1)]) [])
 else (
  F36_L2 K (g.2.2.2.2.1, (g.2.2.2.2.1.length : Int), 0, g.1, g.2.1, g.2.2.1, g.2.2.2.1, g.2.2.2.2.1, [], ()))
theorem F36_eq (g : prodL L36) (K X : Kn) : F36 g K = dfun D (gamX [(84, rw84)] [(43, false, sp43), (67, true, sp67), (68, true, sp68), (69, true, sp69), (70, true, sp70)]) (isRaw [(84, rw84)]) H36 J36 61 [.tmp 2, .tmp 3, .tmp 4] (codeOf Tryz.f36) (argsT S36 L36 g) (storeT S36 O36 L36 g) (settleD (storeT S36 O36 L36 g).length 0 K) X 0 1036000 := by kernel_rfl
theorem F36_ok (g : prodL L36) (K X : Kn) (h : F36 g K) : FCalls Tryz.prog 36 (argsT S36 L36 g) (storeT S36 O36 L36 g) K X 0 :=
 FCalls.settleD (dfun_sound (Γ := gamX [(84, rw84)] [(43, false, sp43), (67, true, sp67), (68, true, sp68), (69, true, sp69), (70, true, sp70)]) (mu := isRaw [(84, rw84)]) (H := H36) (J := J36) D_ok (gamX_ok (rs := [(84, rw84)]) (l := [(43, false, sp43), (67, true, sp67), (68, true, sp68), (69, true, sp69), (70, true, sp70)]) (by intro p hp; simp only [List.mem_cons, List.not_mem_nil, or_false] at hp; subst hp; exact rw84_ok) (by intro p hp; simp only [List.mem_cons, List.not_mem_nil, or_false] at hp; rcases hp with rfl | rfl | rfl | rfl | rfl <;> first | exact sp43_ok | exact sp67_ok | exact sp68_ok | exact sp69_ok | exact sp70_ok)) gamX_det rfl Tryz.func36 (c := codeOf Tryz.f36) rfl Tryz.ntmps36 (rs := [.tmp 2, .tmp 3, .tmp 4]) Tryz.results36 (by unfold enters; rw [Tryz.func36]; kernel_rfl) (Nat.le_of_ble_eq_true (by kernel_rfl)) (X := X) (c0 := 0) (Eq.mp (F36_eq g K X) h) (yOk_of_keys [16] (by kernel_rfl) (by kernel_rfl)))
end Go.Proofs.YtbglndogddddoaaGreatDoor
namespace Go.Proofs.YtbglndogddddoaaGreatDoor
open Go.RowKit
set_option maxRecDepth 100000
def virtU (e0 : El) (K : Kn) : Kn := fun r s => match r with
 | .tu (.nil :: us) => K (.tu (.oa e0 s.length 0 :: us)) (addArr s e0)
 | r => K r s
theorem FCalls.virtU {P : Program} {f : FuncId} {vs : List T} {K X : Kn} {e0 : El} (h : FCalls P f vs [] (virtU e0 K) X) : FCalls P f vs [] K X := by
 refine fun g w hg => (h g w hg).mono fun e w' ⟨g', st', h1, h2, h3⟩ => ?_
 cases e with
 | returned x =>
  obtain ⟨r, r1, r2⟩ := h3
  unfold Go.Proofs.YtbglndogddddoaaGreatDoor.virtU at r1
  split at r1
  . rename_i us
    obtain ⟨g2, k1, k2, k3, k4⟩ := good_virt h1 e0
    refine ⟨g2, _, k1, h2.trans (k3 _), _, r1, ?_⟩
    cases r2 with
    | tu _ xs a1 a2 =>
     refine .tu _ xs (by simpa using a1) fun i c x hc hx => ?_
     cases i with
     | zero =>
      simp only [List.getElem?_cons_zero, Option.some.injEq] at hc
      subst hc
      exact k4 _ (a2 0 .nil x rfl hx)
     | succ i => exact (a2 (i + 1) c x hc hx).mono k2
  . exact ⟨g', st', h1, h2, _, r1, r2⟩
 | panicked ch => exact ⟨g', st', h1, h2, h3⟩
 | outgrown => exact h3.elim
theorem wkK_nilT {K : Kn} {e : El} {v : T} {s : St} (h : K (.tu [.sl false e [], v]) s) : wkK K (.tu [.nil, v]) s :=
 ⟨_, Weak.tu (WeakL.cons (Weak.nil e) (WeakL.cons (Weak.refl _) WeakL.nil)), h⟩
def ownAt (cs : List Chg) (n : Nat) : List Atm := (cs.take n).foldl (fun own c => own ++ madeL c own.length) []
theorem ownAt_succ {cs : List Chg} {n : Nat} (h : n < cs.length) : ownAt cs (n + 1) = ownAt cs n ++ madeL cs[n] (ownAt cs n).length := by
 unfold ownAt
 rw [take_snoc h, List.foldl_append]; rfl
theorem LoopW.chgs {γ : Type} {body : (γ -> Prop) -> γ -> Prop} {g : γ} (f : Chg -> Int) (r : Chg -> List Atm -> Int) (cs : List Chg) (S : Nat -> List Atm -> γ) (Q : List Atm × Int -> Prop) (hQ : Q (chgsG f r cs [])) (hg : g = S 0 [])
  (hk : ∀ c, f c = 0 -> kindP c) (hb : (cs.map bk_chg).sum <= 4194304)
  (step : ∀ (W : γ -> Prop) (n : Nat) (h : n < cs.length) (own : List Atm), own.length <= 8388608 -> (f cs[n] ≠ 0 -> Q ([], f cs[n])) -> (f cs[n] = 0 -> r cs[n] own ≠ 0 -> Q ([], r cs[n] own)) -> (f cs[n] = 0 -> r cs[n] own = 0 -> W (S (n + 1) (own ++ madeL cs[n] own.length))) -> body W (S n own))
  (last : ∀ (W : γ -> Prop) (own : List Atm), (∀ c ∈ cs, kindP c) -> Q (own, 0) -> body W (S cs.length own)) : LoopW body g := by
 have sums : ∀ n, ((cs.take n).map bk_chg).sum <= (cs.map bk_chg).sum := fun n => by
  have e : (cs.map bk_chg).sum = ((cs.take n).map bk_chg).sum + ((cs.drop n).map bk_chg).sum := by
   rw [<- List.sum_append, <- List.map_append, List.take_append_drop]
  omega
 refine LoopW.countTo cs.length (fun n => S n (ownAt cs n)) (fun n => (ownAt cs n).length <= 2 * ((cs.take n).map bk_chg).sum /\ (∀ c ∈ cs.take n, kindP c) /\ Q (chgsG f r (cs.drop n) (ownAt cs n))) hg (fun n hn hp W hW => ?_) ⟨by simp [ownAt], fun c hc => by simp at hc, by simpa [ownAt] using hQ⟩
 obtain ⟨p1, p2, p3⟩ := hp
 have hs := sums n
 by_cases hlt : n < cs.length
 . rw [List.drop_eq_getElem_cons hlt, chgsG] at p3
   refine step W n hlt _ (by omega) (fun z => ?_) (fun z y => ?_) fun z y => ?_
   . rw [decide_eq_false z] at p3; exact p3
   . rw [decide_eq_true z, decide_eq_false y] at p3; exact p3
   . rw [decide_eq_true z, decide_eq_true y] at p3
     rw [<- ownAt_succ hlt]
     refine hW hlt ⟨?_, fun c hc => ?_, ?_⟩
     . rw [ownAt_succ hlt, take_snoc hlt, List.map_append, List.sum_append, List.length_append]
       have := madeL_le (n := ((ownAt cs n).length : Int)) (hk _ z)
       simp only [List.map_cons, List.map_nil, List.sum_cons, List.sum_nil]
       omega
     . rw [take_snoc hlt] at hc
       rcases List.mem_append.1 hc with hc | hc
       . exact p2 c hc
       . rw [List.mem_singleton.1 hc]; exact hk _ z
     . rw [ownAt_succ hlt]; exact p3
 . have : n = cs.length := by omega
   subst this
   rw [List.drop_length] at p3
   rw [List.take_length] at p2
   exact last W _ p2 p3
abbrev K3 (K : Kn) : List Atm × ByteArray × Int -> Prop := fun x => K (.tu [.oa .atm 0 0, .str x.2.1, .int .i64 x.2.2]) [some (.arr 0 .atm x.1)]
theorem F36_is {a m : ByteArray} {t : Int} {ds : List Dig} {cs : List Chg} {K : Kn} (hp : xP a m t ds cs) (h : K3 K (exP a m t ds cs)) : F36 (a, m, t, ds, cs, ()) (virtU .atm K) := by
 obtain ⟨h1, h2, h3, h4, h5, h6⟩ := hp
 have hl := cs_len h5
 unfold F36
 unfold exP at h
 refine ⟨Nat.le_trans h2 (by omega), ?_⟩
 show bif !decide (headB digC a m t ds cs = 0) then _ else _
 by_cases z : headB digC a m t ds cs = 0
 rotate_left
 . rw [decide_eq_false z] at h ⊢; exact h
 rw [decide_eq_true z] at h ⊢
 rw [Bool.not_true, cond_false] at h ⊢
 unfold F36_L2
 refine LoopW.chgs fieldsP refsP cs (fun n own => (cs, (cs.length : Int), (n : Int), a, m, t, ds, cs, own, ())) (fun r => K3 K (exEnd r (enT (patX a m t (patD ds) cs)))) h rfl (fun c => kind_of_fieldsP) h5 (fun W n hn own ho e1 e2 e3 => ?_) fun W own hk h => ?_
 . show F36_B2 (virtU .atm K) W cs cs.length n a m t ds cs own
   unfold F36_B2
   rw [lt_true hn, cond_true]
   have hc := chP_of h5 (List.getElem_mem hn)
   have hpp := chP_parts hc
   refine At_of hn ⟨hc, ?_⟩
   by_cases y : fieldsP cs[n] = 0
   rotate_left
   . have e1 := e1 y
     unfold exEnd at e1
     rw [decide_eq_false y] at e1 ⊢; exact e1
   rw [decide_eq_true y, Bool.not_true, cond_false]
   refine ⟨hpp.2.2.2.2, ?_⟩
   by_cases x : refsP cs[n] own = 0
   rotate_left
   . have e2 := e2 y x
     unfold exEnd at e2
     rw [decide_eq_false x] at e2 ⊢; exact e2
   rw [decide_eq_true x, Bool.not_true, cond_false]
   refine ⟨trivial, ⟨⟨kind_of_fieldsP y, hpp.2.2.1, by omega, by show (own.length : Int) <= _; omega⟩, by show own.length <= _; omega⟩, ?_⟩
   rw [wrapS hn (by omega)]
   exact e3 y x
 . show F36_B2 (virtU .atm K) W cs cs.length cs.length a m t ds cs own
   unfold F36_B2
   rw [lt_false, cond_false]
   refine ⟨⟨h1, h2, h3, h4, h5, fun c hc => ⟨h6 c hc, hk c hc⟩⟩, ?_⟩
   have hJ : ∀ b, K3 K (exP5 own (enT (patX a m t (patD ds) cs)).1 b) -> F36_J5 (virtU .atm K) (enT (patX a m t (patD ds) cs)).1 b own := by
    intro b h
    unfold F36_J5
    cases b
    . exact h
    . exact h
   exact bifJ (J := fun b => F36_J5 (virtU .atm K) (enT (patX a m t (patD ds) cs)).1 b own) (f := fun b => exP5 own (enT (patX a m t (patD ds) cs)).1 b) (K := K3 K) hJ h
def sp36 : Sp := ⟨S36, L36, fun g => xP g.1 g.2.1 g.2.2.1 g.2.2.2.1 g.2.2.2.2.1, fun g => .tu [.oa .atm 0 0, .str (exP g.1 g.2.1 g.2.2.1 g.2.2.2.1 g.2.2.2.2.1).2.1, .int .i64 (exP g.1 g.2.1 g.2.2.1 g.2.2.2.1 g.2.2.2.2.1).2.2], fun g => some (.arr 0 .atm (exP g.1 g.2.1 g.2.2.1 g.2.2.2.1 g.2.2.2.2.1).1)⟩
theorem sp36_ok : sp36.Ok Tryz.prog 36 false :=
 ⟨fun g K X hp h => FCalls.virtU (e0 := .atm) (F36_ok g (virtU .atm K) X (F36_is hp h)), fun _ _ _ => rfl, fun _ => rfl, fun h => (by cases h)⟩
abbrev K2 (K : Kn) : List Atm × Int -> Prop := fun x => K (.tu [.sl false .atm x.1, .int .i64 x.2]) []
set_option maxRecDepth 100000
theorem exP_ok {a m : ByteArray} {t : Int} {ds : List Dig} {cs : List Chg} (h : (exP a m t ds cs).2.2 = 0) : headB digC a m t ds cs = 0 /\ (chgsP cs).2 = 0 /\ (enT (patX a m t (patD ds) cs)).2 = 0 /\ ((enT (patX a m t (patD ds) cs)).1.size : Int) <= 65536 := by
 unfold exP at h
 by_cases z : headB digC a m t ds cs = 0
 rotate_left
 . rw [decide_eq_false z] at h; exact absurd h z
 rw [decide_eq_true z, Bool.not_true, cond_false] at h
 unfold exEnd at h
 by_cases y : (chgsP cs).2 = 0
 rotate_left
 . rw [decide_eq_false y] at h; exact absurd h y
 rw [decide_eq_true y, Bool.not_true, cond_false] at h
 unfold exP5 at h
 by_cases x : (enT (patX a m t (patD ds) cs)).2 = 0
 rotate_left
 . rw [decide_eq_false x] at h; exact absurd h (show (4 : Int) ≠ 0 by decide)
 rw [decide_eq_true x, Bool.not_true, cond_false] at h
 by_cases w : 65536 < ((enT (patX a m t (patD ds) cs)).1.size : Int)
 . rw [decide_eq_true w] at h; exact absurd h (show (4 : Int) ≠ 0 by decide)
 . exact ⟨z, y, x, by omega⟩
theorem exP_eq {a m : ByteArray} {t : Int} {ds : List Dig} {cs : List Chg} (h : (exP a m t ds cs).2.2 = 0) : exP a m t ds cs = ((chgsP cs).1, (enT (patX a m t (patD ds) cs)).1, 0) := by
 obtain ⟨h1, h2, h3, h4⟩ := exP_ok h
 unfold exP exEnd exP5
 rw [decide_eq_true h1, decide_eq_true h2, decide_eq_true h3, decide_eq_false (show ¬ 65536 < ((enT (patX a m t (patD ds) cs)).1.size : Int) by omega)]
 rfl
end Go.Proofs.YtbglndogddddoaaGreatDoor
namespace Go.Proofs.YtbglndogddddoaaGreatDoor
open Go.RowKit
attribute [local irreducible] dfun dround
set_option maxRecDepth 100000
def H13 : List (Nat × Hint) := []
def J13 : List (Nat × Hint) := []
abbrev S13 : List Sh := [.ag [.leaf, .leaf, .leaf, .leaf, .leaf]]
abbrev L13 : List Lf := [.str, .str, .int .i64, .sl .dig, .sl .chg]
def F13 (g : prodL L13) (K : Kn) : Prop :=
 sp36.pre (g.1, g.2.1, g.2.2.1, g.2.2.2.1, g.2.2.2.2.1, ()) /\
 K (.tu [.str ((exP g.1 g.2.1 g.2.2.1 g.2.2.2.1 g.2.2.2.2.1).2.1), .int .i64 ((exP g.1 g.2.1 g.2.2.1 g.2.2.2.1 g.2.2.2.2.1).2.2)]) []
theorem F13_eq (g : prodL L13) (K X : Kn) : F13 g K = dfun D (gamX [] [(36, false, sp36)]) (isRaw []) H13 J13 15 [.tmp 2, .tmp 3] (codeOf Tryz.f13) (argsT S13 L13 g) [] (settle0 K) X := by kernel_rfl
theorem F13_ok (g : prodL L13) (K X : Kn) (h : F13 g K) : FCalls Tryz.prog 13 (argsT S13 L13 g) [] K X :=
 FCalls.settle0 (dfun_sound (Γ := gamX [] [(36, false, sp36)]) (mu := isRaw []) (H := H13) (J := J13) D_ok (gamX_ok (rs := []) (l := [(36, false, sp36)]) (fun p hp => by cases hp) (by intro p hp; simp only [List.mem_cons, List.not_mem_nil, or_false] at hp; subst hp; exact sp36_ok)) gamX_det rfl Tryz.func13 (c := codeOf Tryz.f13) rfl Tryz.ntmps13 Tryz.results13 (by unfold enters; rw [Tryz.func13]; kernel_rfl) (Nat.le_of_ble_eq_true (by kernel_rfl)) (c0 := 0) (Eq.mp (F13_eq g K X) h))
def sp13 : Sp := ⟨S13, L13, fun g => sp36.pre g, fun g => .tu [.str ((exP g.1 g.2.1 g.2.2.1 g.2.2.2.1 g.2.2.2.2.1).2.1), .int .i64 ((exP g.1 g.2.1 g.2.2.1 g.2.2.2.1 g.2.2.2.2.1).2.2)], fun _ => none⟩
theorem sp13_ok : sp13.Ok Tryz.prog 13 true :=
 ⟨fun g K X hp h => F13_ok g K X (by
  have h : K (.tu [.str ((exP g.1 g.2.1 g.2.2.1 g.2.2.2.1 g.2.2.2.2.1).2.1), .int .i64 ((exP g.1 g.2.1 g.2.2.1 g.2.2.2.1 g.2.2.2.2.1).2.2)]) [] := h
  exact ⟨hp, h⟩), fun _ _ _ => rfl, fun _ => rfl, by first | exact fun _ _ => ⟨rfl, rfl⟩ | (intro h; cases h)⟩
end Go.Proofs.YtbglndogddddoaaGreatDoor
namespace Go.Proofs.YtbglndogddddoaaGreatDoor
open Go.RowKit
set_option maxRecDepth 100000
end Go.Proofs.YtbglndogddddoaaGreatDoor
namespace Go.Proofs.YtbglndogddddoaaGreatDoor
open Go.RowKit
attribute [local irreducible] dfun dround
set_option maxRecDepth 100000
end Go.Proofs.YtbglndogddddoaaGreatDoor
namespace Go.Proofs.YtbglndogddddoaaGreatDoor
open Go.RowKit
set_option maxRecDepth 100000
end Go.Proofs.YtbglndogddddoaaGreatDoor
namespace Go.Proofs.YtbglndogddddoaaGreatDoor
open Go.RowKit
attribute [local irreducible] dfun dround
set_option maxRecDepth 100000
end Go.Proofs.YtbglndogddddoaaGreatDoor
namespace Go.Proofs.YtbglndogddddoaaGreatDoor
open Go.RowKit
set_option maxRecDepth 100000
set_option maxRecDepth 100000
def rotL (x k : Int) : Int := bitsOf .or .u32 (IntKind.u32.wrap (x * 2 ^ (min (bitsOf .and .u64 (IntKind.u64.wrap k) 31).toNat IntKind.u32.bits))) (Int.fdiv x (2 ^ (min (IntKind.u64.wrap (32 - (bitsOf .and .u64 (IntKind.u64.wrap k) 31))).toNat IntKind.u32.bits)))
def rotR (x n : Int) : Int := rotL x (IntKind.i64.wrap (0 - n))
def kL : List Int := [1116352408, 1899447441, 3049323471, 3921009573, 961987163, 1508970993, 2453635748, 2870763221, 3624381080, 310598401, 607225278, 1426881987, 1925078388, 2162078206, 2614888103, 3248222580, 3835390401, 4022224774, 264347078, 604807628, 770255983, 1249150122, 1555081692, 1996064986, 2554220882, 2821834349, 2952996808, 3210313671, 3336571891, 3584528711, 113926993, 338241895, 666307205, 773529912, 1294757372, 1396182291, 1695183700, 1986661051, 2177026350, 2456956037, 2730485921, 2820302411, 3259730800, 3345764771, 3516065817, 3600352804, 4094571909, 275423344, 430227734, 506948616, 659060556, 883997877, 958139571, 1322822218, 1537002063, 1747873779, 1955562222, 2024104815, 2227730452, 2361852424, 2428436474, 2756734187, 3204031479, 3329325298]
theorem u64_nn (n : Int) : 0 <= IntKind.u64.wrap n := by
 simp only [IntKind.wrap, IntKind.bits, IntKind.signed, Bool.false_and, Bool.false_eq_true, if_false]
 omega
theorem and_nn (a b : Int) : 0 <= bitsOf .and .u64 a b := u64_nn _
def orB (x c : Int) : Int := bitsOf .or .u32 (IntKind.u32.wrap (x * 2 ^ (min (8 : Int).toNat IntKind.u32.bits))) (IntKind.u32.wrap c)
def blk4 (b : ByteArray) (t : Nat) : List Int := strB (b.extract (4 * t) (4 * t + 4))
def sg1 (x : Int) : Int := bitsOf .xor .u32 (bitsOf .xor .u32 (rotR x 17) (rotR x 19)) (Int.fdiv x (2 ^ (min (10 : Int).toNat IntKind.u32.bits)))
def sg0 (x : Int) : Int := bitsOf .xor .u32 (bitsOf .xor .u32 (rotR x 7) (rotR x 18)) (Int.fdiv x (2 ^ (min (3 : Int).toNat IntKind.u32.bits)))
def schW (w : List Int) (t : Nat) : Int := IntKind.u32.wrap (IntKind.u32.wrap (IntKind.u32.wrap (sg1 (w.getD (t - 2) 0) + w.getD (t - 7) 0) + sg0 (w.getD (t - 15) 0)) + w.getD (t - 16) 0)
def schA (b : ByteArray) (w : List Int) (t : Nat) : List Int := if t < 16 then w.set t ((blk4 b t).foldl orB (w.getD t 0)) else w.set t (schW w t)
def zL : List Int := List.replicate 64 0
def wAt (b : ByteArray) (n : Nat) : List Int := (List.range n).foldl (schA b) zL
def schP (b : ByteArray) : List Int := wAt b 64
theorem schA_len (b : ByteArray) (w : List Int) (t : Nat) : (schA b w t).length = w.length := by
 unfold schA; split <;> simp
theorem wAt_succ (b : ByteArray) (n : Nat) : wAt b (n + 1) = schA b (wAt b n) n := by
 unfold wAt; rw [List.range_succ, List.foldl_append]; rfl
theorem wAt_len (b : ByteArray) : ∀ n, (wAt b n).length = 64
 | 0 => by simp [wAt, zL]
 | n + 1 => by rw [wAt_succ, schA_len, wAt_len b n]
def rndT1 (w : List Int) (t : Nat) (e f g h : Int) : Int := IntKind.u32.wrap (IntKind.u32.wrap (IntKind.u32.wrap (IntKind.u32.wrap (h + (bitsOf .xor .u32 (bitsOf .xor .u32 (rotR e 6) (rotR e 11)) (rotR e 25))) + (bitsOf .xor .u32 (bitsOf .and .u32 e f) (bitsOf .and .u32 (bitsOf .xor .u32 IntKind.u32.max e) g))) + kL.getD t 0) + w.getD t 0)
def rndT2 (a b c : Int) : Int := IntKind.u32.wrap ((bitsOf .xor .u32 (bitsOf .xor .u32 (rotR a 2) (rotR a 13)) (rotR a 22)) + (bitsOf .xor .u32 (bitsOf .xor .u32 (bitsOf .and .u32 a b) (bitsOf .and .u32 a c)) (bitsOf .and .u32 b c)))
def rnd (w : List Int) (v : List Int) (t : Nat) : List Int := match v with
 | [a, b, c, d, e, f, g, h] => [IntKind.u32.wrap (rndT1 w t e f g h + rndT2 a b c), a, b, c, IntKind.u32.wrap (d + rndT1 w t e f g h), e, f, g]
 | v => v
def vAt (w s : List Int) (n : Nat) : List Int := (List.range n).foldl (rnd w) s
def addW (s v : List Int) : List Int := List.zipWith (fun x y => IntKind.u32.wrap (x + y)) s v
def compP (s : List Int) (b : ByteArray) : List Int := addW s (vAt (schP b) s 64)
theorem eight {v : List Int} (h : v.length = 8) : ∃ a b c d e f g k, v = [a, b, c, d, e, f, g, k] := by
 match v, h with
 | [a, b, c, d, e, f, g, k], _ => exact ⟨a, b, c, d, e, f, g, k, rfl⟩
theorem rnd_len (w : List Int) {v : List Int} (t : Nat) (h : v.length = 8) : (rnd w v t).length = 8 := by
 obtain ⟨a, b, c, d, e, f, g, k, rfl⟩ := eight h
 rfl
theorem vAt_succ (w s : List Int) (n : Nat) : vAt w s (n + 1) = rnd w (vAt w s n) n := by
 unfold vAt; rw [List.range_succ, List.foldl_append]; rfl
theorem vAt_len (w : List Int) {s : List Int} (h : s.length = 8) : ∀ n, (vAt w s n).length = 8
 | 0 => h
 | n + 1 => by rw [vAt_succ]; exact rnd_len w n (vAt_len w h n)
theorem compP_len {s : List Int} (h : s.length = 8) (b : ByteArray) : (compP s b).length = 8 := by
 unfold compP addW
 rw [List.length_zipWith, vAt_len _ h, h]; rfl
def padN (n : Nat) : Nat := (120 - n % 64) % 64
def lenB (s : ByteArray) (i : Nat) : Int := IntKind.u8.wrap (Int.fdiv (IntKind.u64.wrap ((IntKind.u64.wrap (s.size : Int)) * 8)) (2 ^ (min (56 - 8 * (i : Int)).toNat IntKind.u64.bits)))
def endL (s : ByteArray) : List Int := strB (s.extract (s.size / 64 * 64) s.size) ++ [128]
def padL (s : ByteArray) : List Int := endL s ++ List.replicate (padN (endL s).length) 0
def lastL (s : ByteArray) : List Int := padL s ++ (List.range 8).map (lenB s)
def blkW (s : ByteArray) (i : Nat) : ByteArray := s.extract (64 * i) (64 * i + 64)
def blkZ (l : List Int) (i : Nat) : ByteArray := bStr ((l.drop (64 * i)).take 64)
def blkA (s : ByteArray) : List ByteArray := (List.range (s.size / 64)).map (blkW s)
def blkB (s : ByteArray) : List ByteArray := (List.range ((lastL s).length / 64)).map (blkZ (lastL s))
def blkP (st : List Int) (s : ByteArray) : List Int := (blkA s ++ blkB s).foldl compP st
def pre111 (g : prodL [.pr .str, .int .u32, .int .u32, .int .u32, .int .u32, .int .u32, .int .u32, .int .u32, .int .u32]) : Prop := g.1.size <= 4194304
def st0 : List Int := [1779033703, 3144134277, 1013904242, 2773480762, 1359893119, 2600822924, 528734635, 1541459225]
def byteD (v : List Int) (i j : Nat) : Int := IntKind.u8.wrap (Int.fdiv (v.getD i 0) (2 ^ (min ((24 : Int) - 8 * j).toNat IntKind.u32.bits)))
def digW (v : List Int) : Dig := ⟨byteD v 0 0, byteD v 0 1, byteD v 0 2, byteD v 0 3, byteD v 1 0, byteD v 1 1, byteD v 1 2, byteD v 1 3, byteD v 2 0, byteD v 2 1, byteD v 2 2, byteD v 2 3, byteD v 3 0, byteD v 3 1, byteD v 3 2, byteD v 3 3, byteD v 4 0, byteD v 4 1, byteD v 4 2, byteD v 4 3, byteD v 5 0, byteD v 5 1, byteD v 5 2, byteD v 5 3, byteD v 6 0, byteD v 6 1, byteD v 6 2, byteD v 6 3, byteD v 7 0, byteD v 7 1, byteD v 7 2, byteD v 7 3⟩
def shaP (s : ByteArray) : Dig := digW (blkP st0 s)
theorem foldl_len {l : List ByteArray} : ∀ {st : List Int}, st.length = 8 -> (l.foldl compP st).length = 8 := by
 induction l with
 | nil => intro st h; exact h
 | cons b l ih => intro st h; exact ih (compP_len h b)
end Go.Proofs.YtbglndogddddoaaGreatDoor
