import Derived.Test.YtofjpelbjehddaaDoorQ2
/- What functions come to: printed by exf.py. -/
namespace Go.Proofs.YtofjpelbjehddaaDoor
set_option linter.unusedVariables false
set_option linter.unusedSimpArgs false
set_option linter.unusedSectionVars false
open Go.RowKit
attribute [local irreducible] dfun dround
/-- quilt/arq.Accept -/
def H14 : List (Nat × Hint) := []
def J14 : List (Nat × Hint) := [(7, ⟨[((2, []), none), ((3, []), none), ((4, []), none), ((6, []), none)], [(2, .pt 0 0), (3, .pt 1 0), (4, .pt 2 0), (6, .pt 3 0), (8, .leaf), (19, .leaf)], [.cells [.leaf, .leaf, .leaf], .cells [.leaf, .leaf, .leaf], .cells [.leaf, .nil, .nil], .cells [.leaf, .leaf, .leaf]], [.int .i64, .bool, .int .i64, .sl .boo, .sl .str, .bool, .int .i64, .str, .int .i64, .bool, .int .i64, .str]⟩), (12, ⟨[((2, []), none), ((3, []), none), ((4, []), none), ((6, []), none)], [(2, .pt 0 0), (3, .pt 1 0), (4, .pt 2 0), (6, .pt 3 0), (8, .leaf)], [.cells [.leaf, .leaf, .leaf], .cells [.leaf, .leaf, .leaf], .cells [.leaf, .nil, .nil], .cells [.leaf, .leaf, .leaf]], [.int .i64, .int .i64, .sl .boo, .sl .str, .bool, .int .i64, .str, .int .i64, .bool, .int .i64, .str]⟩), (16, ⟨[((2, []), none), ((3, []), none), ((4, []), none), ((6, []), none)], [(2, .pt 0 0), (3, .pt 1 0), (4, .pt 2 0), (6, .pt 3 0), (9, .leaf), (65, .leaf)], [.cells [.leaf, .leaf, .leaf], .cells [.leaf, .leaf, .leaf], .cells [.leaf, .nil, .nil], .cells [.leaf, .leaf, .leaf]], [.int .i64, .bool, .int .i64, .sl .boo, .sl .str, .bool, .int .i64, .str, .int .i64, .bool, .int .i64, .str]⟩), (21, ⟨[((2, []), none), ((4, []), none), ((6, []), none)], [(2, .pt 0 0), (4, .pt 1 0), (6, .pt 2 0), (10, .leaf)], [.cells [.leaf, .leaf, .leaf], .cells [.leaf, .nil, .nil], .cells [.leaf, .leaf, .leaf]], [.int .i64, .int .i64, .sl .boo, .sl .str, .int .i64, .bool, .int .i64, .str]⟩)]
abbrev S14 : List Sh := [.ag [.leaf, .leaf, .leaf], .ag [.leaf, .leaf, .leaf]]
abbrev L14 : List Lf := [.int .i64, .sl .boo, .sl .str, .bool, .int .i64, .str]
def F14_J8 (K : Kn) (n_7 : Int) (r1_7 : Int) (r2_7 : List Bool) (r3_7 : List ByteArray) (t1_7 : Int) (t12_7 : Bool) (t2_7 : Int) (t3_7 : ByteArray) : Prop :=
  (0 : Int) ≤ 0 ∧ 0 ≤ n_7 ∧ n_7 ≤ (r3_7.length : Int) ∧
  sp28.pre ((r3_7.take n_7.toNat).drop ((0 : Int).toNat), ()) ∧
  (0 : Int) ≤ n_7 ∧ n_7 ≤ (r2_7.length : Int) ∧
  sp36.pre (r2_7.drop n_7.toNat, ()) ∧
  (0 : Int) ≤ n_7 ∧ n_7 ≤ (r3_7.length : Int) ∧
  sp28.pre (r3_7.drop n_7.toNat, ()) ∧
  K (.tu [.ag [.int .i64 (IntKind.i64.wrap (r1_7 + n_7)), .sl false .boo (r2_7.drop n_7.toNat), .sl false .str (r3_7.drop n_7.toNat)], .sl false .str ((r3_7.take n_7.toNat).drop ((0 : Int).toNat)), .ag [.bool true, .int .i64 (IntKind.i64.wrap (r1_7 + n_7)), .str (⟨#[]⟩ : ByteArray)], .int .i64 0]) []
def F14_J6 (K : Kn) (i_5 : Int) (t_5 : Bool) (r1_5 : Int) (r2_5 : List Bool) (r3_5 : List ByteArray) (f1_5 : Bool) (f2_5 : Int) (f3_5 : ByteArray) (t1_5 : Int) (t12_5 : Bool) (t2_5 : Int) (t3_5 : ByteArray) : Prop :=
  bif t_5 then (
    K (.tu [.ag [.int .i64 r1_5, .sl false .boo r2_5, .sl false .str r3_5], .nil, .ag [.bool true, .int .i64 r1_5, .str (⟨#[]⟩ : ByteArray)], .int .i64 0]) [])
  else (
    sp34.pre (r1_5, r2_5, r3_5, i_5, f3_5, ()) ∧
  sp35.pre (putL false r2_5 i_5.toNat true, false, ()) ∧
  bif decide (ixOf (putL false r2_5 i_5.toNat true) false < 0) then (
    F14_J8 K (((putL false r2_5 i_5.toNat true).length : Nat) : Int) r1_5 (putL false r2_5 i_5.toNat true) (putL ⟨#[]⟩ r3_5 i_5.toNat f3_5) t1_5 t12_5 t2_5 t3_5)
  else (
    F14_J8 K (ixOf (putL false r2_5 i_5.toNat true) false) r1_5 (putL false r2_5 i_5.toNat true) (putL ⟨#[]⟩ r3_5 i_5.toNat f3_5) t1_5 t12_5 t2_5 t3_5))
def F14_J9 (K : Kn) (e_3 : Int) (r1_3 : Int) (r2_3 : List Bool) (r3_3 : List ByteArray) (f1_3 : Bool) (f2_3 : Int) (f3_3 : ByteArray) (t1_3 : Int) (t12_3 : Bool) (t2_3 : Int) (t3_3 : ByteArray) : Prop :=
  bif !decide (e_3 = 0) then (
    K (.tu [.ag [.int .i64 0, .nil, .nil], .nil, .ag [.bool false, .int .i64 0, .str (⟨#[]⟩ : ByteArray)], .int .i64 e_3]) [])
  else (
    bif decide (IntKind.i64.wrap (f2_3 - r1_3) < 0) then (
    F14_J6 K (IntKind.i64.wrap (f2_3 - r1_3)) true r1_3 r2_3 r3_3 f1_3 f2_3 f3_3 t1_3 t12_3 t2_3 t3_3)
  else (
    bif decide (IntKind.i64.wrap (f2_3 - r1_3) < (r2_3.length : Int)) then (
      At r2_3 (IntKind.i64.wrap (f2_3 - r1_3)) fun u4 =>
      F14_J6 K (IntKind.i64.wrap (f2_3 - r1_3)) u4 r1_3 r2_3 r3_3 f1_3 f2_3 f3_3 t1_3 t12_3 t2_3 t3_3)
    else (
      F14_J6 K (IntKind.i64.wrap (f2_3 - r1_3)) false r1_3 r2_3 r3_3 f1_3 f2_3 f3_3 t1_3 t12_3 t2_3 t3_3)))
def F14_J2 (K : Kn) (e_1 : Int) (t_1 : Bool) (r1_1 : Int) (r2_1 : List Bool) (r3_1 : List ByteArray) (f1_1 : Bool) (f2_1 : Int) (f3_1 : ByteArray) (t1_1 : Int) (t12_1 : Bool) (t2_1 : Int) (t3_1 : ByteArray) : Prop :=
  bif t_1 then (
        F14_J9 K 2 r1_1 r2_1 r3_1 f1_1 f2_1 f3_1 t1_1 t12_1 t2_1 t3_1)
      else (
        bif decide (65472 < (f3_1.size : Int)) then (
          F14_J9 K 4 r1_1 r2_1 r3_1 f1_1 f2_1 f3_1 t1_1 t12_1 t2_1 t3_1)
        else (
          bif decide (IntKind.i64.wrap (r1_1 + 64) ≤ f2_1) then (
            F14_J9 K 17 r1_1 r2_1 r3_1 f1_1 f2_1 f3_1 t1_1 t12_1 t2_1 t3_1)
          else (
            F14_J9 K e_1 r1_1 r2_1 r3_1 f1_1 f2_1 f3_1 t1_1 t12_1 t2_1 t3_1)))
def F14 (g : prodL L14) (K : Kn) : Prop :=
  sp33.pre (g.1, g.2.1, g.2.2.1, ()) ∧
  bif !(Rcv.ok ⟨g.1, g.2.1, g.2.2.1⟩) then (
    F14_J9 K 1 g.1 g.2.1 g.2.2.1 g.2.2.2.1 g.2.2.2.2.1 g.2.2.2.2.2.1 0 false 0 (⟨#[]⟩ : ByteArray))
  else (
    bif g.2.2.2.1 then (
      F14_J9 K 8 g.1 g.2.1 g.2.2.1 g.2.2.2.1 g.2.2.2.2.1 g.2.2.2.2.2.1 0 false 0 (⟨#[]⟩ : ByteArray))
    else (
      bif decide (g.2.2.2.2.1 < 0) then (
        F14_J2 K 0 true g.1 g.2.1 g.2.2.1 g.2.2.2.1 g.2.2.2.2.1 g.2.2.2.2.2.1 0 false 0 (⟨#[]⟩ : ByteArray))
      else (
        F14_J2 K 0 (decide (1099511627776 ≤ g.2.2.2.2.1)) g.1 g.2.1 g.2.2.1 g.2.2.2.1 g.2.2.2.2.1 g.2.2.2.2.2.1 0 false 0 (⟨#[]⟩ : ByteArray))))
theorem F14_eq (g : prodL L14) (K X : Kn) : F14 g K = dfun D (gamX [] [(28, false, sp28), (33, true, sp33), (34, false, sp34), (35, true, sp35), (36, false, sp36)]) (isRaw []) H14 J14 110 [.cell 4 46, .tmp 5, .cell 6 23, .tmp 7] (codeOf Tryd.f14) (argsT S14 L14 g) [] (settle0 K) X := by kernel_rfl
theorem F14_ok (g : prodL L14) (K X : Kn) (h : F14 g K) : FCalls Tryd.prog 14 (argsT S14 L14 g) [] K X :=
  FCalls.settle0 (dfun_sound (Γ := gamX [] [(28, false, sp28), (33, true, sp33), (34, false, sp34), (35, true, sp35), (36, false, sp36)]) (mu := isRaw []) (H := H14) (J := J14) D_ok (gamX_ok (rs := []) (l := [(28, false, sp28), (33, true, sp33), (34, false, sp34), (35, true, sp35), (36, false, sp36)]) (fun p hp => by cases hp) (by intro p hp; simp only [List.mem_cons, List.not_mem_nil, or_false] at hp; rcases hp with rfl | rfl | rfl | rfl | rfl <;> first | exact sp28_ok | exact sp33_ok | exact sp34_ok | exact sp35_ok | exact sp36_ok)) gamX_det rfl Tryd.func14 (c := codeOf Tryd.f14) rfl Tryd.ntmps14 (rs := [.cell 4 46, .tmp 5, .cell 6 23, .tmp 7]) Tryd.results14 (by unfold enters; rw [Tryd.func14]; kernel_rfl) (Nat.le_of_ble_eq_true (by kernel_rfl)) (X := X) (c0 := 0) (Eq.mp (F14_eq g K X) h))
end Go.Proofs.YtofjpelbjehddaaDoor

/-
  Arq: what its functions yield, in plain terms, 7: Accept.
-/
namespace Go.Proofs.YtofjpelbjehddaaDoor
set_option linter.unusedVariables false
set_option linter.unusedSimpArgs false
set_option linter.unusedSectionVars false
open Go.RowKit

def noRcv : Rcv := ⟨0, [], []⟩
def noFrm : Frm := ⟨false, 0, ⟨#[]⟩⟩
abbrev rcvT (r : Rcv) : T := .ag [.int .i64 r.next, .sl false .boo r.have_, .sl false .str r.data]
abbrev frmT (f : Frm) : T := .ag [.bool f.ack, .int .i64 f.number, .str f.data]
abbrev accT (x : Rcv × List ByteArray × Frm × Int) : T := .tu [rcvT x.1, .sl false .str x.2.1, frmT x.2.2.1, .int .i64 x.2.2.2]
def accErr (r : Rcv) (f : Frm) : Int := if r.ok = false then 1 else if f.ack = true then 8 else if f.number < 0 ∨ 1099511627776 ≤ f.number then 2 else if 65472 < f.data.size then 4 else if r.next + 64 ≤ f.number then 17 else 0
def acceptOf (r : Rcv) (f : Frm) : Rcv × List ByteArray × Frm × Int :=
  if accErr r f ≠ 0 then (noRcv, [], noFrm, accErr r f) else
  if f.number - r.next < 0 ∨ r.have_[(f.number - r.next).toNat]? = some true then (r, [], ⟨true, r.next, ⟨#[]⟩⟩, 0) else
  let hv := putL false r.have_ (f.number - r.next).toNat true
  let data := putL ⟨#[]⟩ r.data (f.number - r.next).toNat f.data
  let n := hv.idxOf false
  (⟨r.next + (n : Int), hv.drop n, data.drop n⟩, data.take n, ⟨true, r.next + (n : Int), ⟨#[]⟩⟩, 0)
theorem wk_acc {K : Kn} {e : Int} (h : K (accT (noRcv, [], noFrm, e)) []) : wkK K (.tu [.ag [.int .i64 0, .nil, .nil], .nil, .ag [.bool false, .int .i64 0, .str ⟨#[]⟩], .int .i64 e]) [] :=
  ⟨_, .tu (.cons (.ag (.cons (.refl _) (.cons (.nil .boo) (.cons (.nil .str) .nil)))) (.cons (.nil .str) (.cons (.refl _) (.cons (.refl _) .nil)))), h⟩
theorem wk_acc2 {K : Kn} {r : Rcv} (h : K (accT (r, [], ⟨true, r.next, ⟨#[]⟩⟩, 0)) []) : wkK K (.tu [rcvT r, .nil, .ag [.bool true, .int .i64 r.next, .str ⟨#[]⟩], .int .i64 0]) [] :=
  ⟨_, .tu (.cons (.refl _) (.cons (.nil .str) (.cons (.refl _) (.cons (.refl _) .nil)))), h⟩
theorem putL_len {α : Type} {z : α} {l : List α} {i : Nat} {x : α} : (putL z l i x).length = max l.length (i + 1) := by
  unfold putL
  simp; omega
theorem F14_is {r : Rcv} {f : Frm} {K : Kn} (h : K (accT (acceptOf r f)) []) : F14 (r.next, r.have_, r.data, f.ack, f.number, f.data, ()) (wkK K) := by
  obtain ⟨nx, hv, data⟩ := r
  obtain ⟨a, m, d⟩ := f
  have err : ∀ {e : Int}, e ≠ 0 → accErr ⟨nx, hv, data⟩ ⟨a, m, d⟩ = e → F14_J9 (wkK K) e nx hv data a m d 0 false 0 ⟨#[]⟩ := fun {e} he hh => by
    unfold acceptOf at h
    rw [hh, if_pos he] at h
    unfold F14_J9
    rw [decide_eq_false he, Bool.not_false, cond_true]
    exact wk_acc h
  unfold F14
  dsimp only [Lf.ty, prodL]
  refine ⟨trivial, ?_⟩
  unfold accErr at err
  cases h1 : Rcv.ok ⟨nx, hv, data⟩
  · rw [Bool.not_false, cond_true]
    exact err (by decide) (by rw [if_pos h1])
  rw [Bool.not_true, cond_false]
  rw [if_neg (by rw [h1]; decide)] at err
  cases a
  case true =>
    rw [cond_true]
    exact err (by decide) (by rw [if_pos rfl])
  rw [cond_false]
  rw [if_neg (by simp)] at err
  unfold F14_J2
  by_cases h2 : m < 0
  · rw [decide_eq_true h2, cond_true, cond_true]
    exact err (by decide) (by rw [if_pos (.inl h2)])
  rw [decide_eq_false h2, cond_false]
  by_cases h3 : 1099511627776 ≤ m
  · rw [decide_eq_true h3, cond_true]
    exact err (by decide) (by rw [if_pos (.inr h3)])
  rw [decide_eq_false h3, cond_false]
  rw [if_neg (by dsimp only; omega)] at err
  by_cases h4 : 65472 < d.size
  · rw [show decide (65472 < (d.size : Int)) = true from decide_eq_true (by omega), cond_true]
    exact err (by decide) (by rw [if_pos h4])
  rw [show decide (65472 < (d.size : Int)) = false from decide_eq_false (by omega), cond_false]
  rw [if_neg h4] at err
  obtain ⟨k1, k2, k3, k4, k5⟩ : ROk ⟨nx, hv, data⟩ := of_decide_eq_true h1
  dsimp only at k2 k3
  have k1 := of_decide_eq_true k1
  dsimp only at k1
  rw [wrap64Q (by omega) (by omega)]
  by_cases h5 : nx + 64 ≤ m
  · rw [decide_eq_true h5, cond_true]
    exact err (by decide) (by rw [if_pos h5])
  rw [decide_eq_false h5, cond_false]
  clear err
  have he : accErr ⟨nx, hv, data⟩ ⟨false, m, d⟩ = 0 := by
    unfold accErr
    rw [if_neg (by rw [h1]; decide), if_neg (by simp), if_neg (by dsimp only; omega), if_neg h4, if_neg h5]
  unfold acceptOf at h
  rw [he, if_neg (by decide)] at h
  dsimp only at h
  unfold F14_J9
  rw [decide_eq_true rfl, Bool.not_true, cond_false, wrap64Q (by omega) (by omega)]
  unfold F14_J6
  by_cases h6 : m - nx < 0
  · rw [if_pos (.inl h6)] at h
    rw [decide_eq_true h6, cond_true, cond_true]
    exact wk_acc2 h
  rw [decide_eq_false h6, cond_false]
  obtain ⟨i, hi⟩ := Int.eq_ofNat_of_zero_le (a := m - nx) (by omega)
  rw [hi, Int.toNat_natCast] at h
  rw [hi, Int.toNat_natCast]
  have hi64 : i < 64 := by omega
  have tail : ¬ hv[i]? = some true → sp34.pre (nx, hv, data, (i : Int), d, ()) ∧ sp35.pre (putL false hv i true, false, ()) ∧ bif decide (ixOf (putL false hv i true) false < 0) then F14_J8 (wkK K) (((putL false hv i true).length : Nat) : Int) nx (putL false hv i true) (putL ⟨#[]⟩ data i d) 0 false 0 ⟨#[]⟩ else F14_J8 (wkK K) (ixOf (putL false hv i true) false) nx (putL false hv i true) (putL ⟨#[]⟩ data i d) 0 false 0 ⟨#[]⟩ := fun hn => by
    rw [if_neg (by rintro (h7 | h7); omega; exact hn h7)] at h
    have l1 : (putL false hv i true).length = max hv.length (i + 1) := putL_len
    have l2 : (putL (⟨#[]⟩ : ByteArray) data i d).length = max data.length (i + 1) := putL_len
    refine ⟨⟨⟨(by omega : (0 : Int) ≤ (i : Int)), (by omega : (i : Int) ≤ 1000)⟩, k2, k3⟩, by show (putL false hv i true).length ≤ 4294967296; omega, ?_⟩
    generalize putL false hv i true = H at *
    generalize putL (⟨#[]⟩ : ByteArray) data i d = Dd at *
    have fin : ∀ n : Nat, n = H.idxOf false → F14_J8 (wkK K) (n : Int) nx H Dd 0 false 0 ⟨#[]⟩ := fun n hn => by
      have hle : n ≤ H.length := by rw [hn]; exact List.idxOf_le_length
      subst hn
      unfold F14_J8
      rw [wrap64Q (n := nx + ((H.idxOf false : Nat) : Int)) (by omega) (by omega), Int.toNat_natCast, Int.toNat_zero, List.drop_zero]
      exact ⟨by decide, by omega, by omega, by show (Dd.take _).length ≤ 4294967296; rw [List.length_take]; omega, by omega, by omega, by show (H.drop _).length ≤ 4294967296; rw [List.length_drop]; omega, by omega, by omega, by show (Dd.drop _).length ≤ 4294967296; rw [List.length_drop]; omega, wkK.same h⟩
    unfold ixOf
    by_cases hm : false ∈ H
    · rw [if_pos hm, decide_eq_false (by omega), cond_false]
      exact fin _ rfl
    · rw [if_neg hm, show decide ((-1 : Int) < 0) = true by decide, cond_true]
      exact fin _ (List.idxOf_eq_length hm).symm
  by_cases h7 : i < hv.length
  · rw [show decide ((i : Int) < (hv.length : Int)) = true from decide_eq_true (by omega), cond_true]
    refine At_ofQ h7 ?_
    cases h8 : hv[i]
    · rw [cond_false]
      exact tail (by rw [List.getElem?_eq_getElem h7, h8]; simp)
    · rw [cond_true]
      rw [if_pos (.inr (by rw [List.getElem?_eq_getElem h7, h8]))] at h
      exact wk_acc2 h
  · rw [show decide ((i : Int) < (hv.length : Int)) = false from decide_eq_false (by omega), cond_false, cond_false]
    exact tail (by rw [List.getElem?_eq_none (by omega)]; simp)
def sp14 : Sp := ⟨S14, L14, fun _ => True, fun g => accT (acceptOf ⟨g.1, g.2.1, g.2.2.1⟩ ⟨g.2.2.2.1, g.2.2.2.2.1, g.2.2.2.2.2.1⟩), fun _ => none⟩
theorem sp14_ok : sp14.Ok Tryd.prog 14 false :=
  ⟨fun g _ X _ h => FCalls.weak (F14_ok _ _ X (F14_is (r := ⟨g.1, g.2.1, g.2.2.1⟩) (f := ⟨g.2.2.2.1, g.2.2.2.2.1, g.2.2.2.2.2.1⟩) h)), fun _ _ _ => rfl, fun _ => rfl, fun h => by cases h⟩
end Go.Proofs.YtofjpelbjehddaaDoor

/- What functions come to: printed by exf.py. -/
namespace Go.Proofs.YtofjpelbjehddaaDoor
set_option linter.unusedVariables false
set_option linter.unusedSimpArgs false
set_option linter.unusedSectionVars false
open Go.RowKit
attribute [local irreducible] dfun dround
end Go.Proofs.YtofjpelbjehddaaDoor

/-
  Arq: what its functions yield, in plain terms, 8: the reference's Accept.
-/
namespace Go.Proofs.YtofjpelbjehddaaDoor
set_option linter.unusedVariables false
set_option linter.unusedSimpArgs false
set_option linter.unusedSectionVars false
open Go.RowKit

theorem lead_get {H : List Bool} {n : Nat} (h : n < H.idxOf false) : H[n]? = some true := by
  induction H generalizing n with
  | nil => simp at h
  | cons b H ih =>
    cases b with
    | false => simp [List.idxOf_cons] at h
    | true =>
      cases n with
      | zero => rfl
      | succ n =>
        rw [List.getElem?_cons_succ]
        refine ih ?_
        simp [List.idxOf_cons] at h
        omega
theorem lead_end {H : List Bool} (h : H.idxOf false < H.length) : H[H.idxOf false]? = some false := by
  rw [List.getElem?_eq_getElem h]
  have := List.getElem_idxOf h
  rw [this]
end Go.Proofs.YtofjpelbjehddaaDoor

/- What functions come to: printed by exf.py. -/
namespace Go.Proofs.YtofjpelbjehddaaDoor
set_option linter.unusedVariables false
set_option linter.unusedSimpArgs false
set_option linter.unusedSectionVars false
open Go.RowKit
attribute [local irreducible] dfun dround
/-- quilt/quiltlaw49.awake -/
def H5 : List (Nat × Hint) := [(3, ⟨[((1, []), none)], [(1, .pt 0 0), (2, .leaf), (23, .leaf), (24, .leaf), (25, .leaf)], [.cells [.leaf, .leaf, .leaf, .leaf]], [.int .i64, .sl .str, .int .i64, .int .i64, .int .i64, .int .i64, .sl .str, .sl .i64]⟩)]
def J5 : List (Nat × Hint) := [(13, ⟨[], [(2, .leaf), (5, .leaf), (6, .leaf), (7, .leaf), (8, .leaf), (10, .leaf), (69, .leaf)], [], [.int .i64, .sl .frm, .sl .frm, .sl .frm, .int .i64, .sl .frm, .bool]⟩)]
abbrev S5 : List Sh := []
abbrev L5 : List Lf := []
def F5_J5 (K : Kn) (e_4 : Int) (a_4 : List Frm) (b_4 : List Frm) (c_4 : List Frm) (f_4 : Int) (d_4 : List Frm) (t_4 : Bool) : Prop :=
  bif t_4 then (
    K (.bool false) [])
  else (
    At a_4 1 fun u6 =>
  sp14.pre (0, [], [], u6.ack, u6.number, u6.data, ()) ∧
  At a_4 0 fun u7 =>
  sp14.pre ((acceptOf ⟨0, [], []⟩ u6).1.next, (acceptOf ⟨0, [], []⟩ u6).1.have_, (acceptOf ⟨0, [], []⟩ u6).1.data, u7.ack, u7.number, u7.data, ()) ∧
  bif decide (e_4 = 0) then (
    bif decide (f_4 = 0) then (
      bif decide ((acceptOf ⟨0, [], []⟩ u6).2.2.2 = 0) then (
        bif decide ((acceptOf ((acceptOf ⟨0, [], []⟩ u6).1) u7).2.2.2 = 0) then (
          bif decide ((b_4.length : Int) = 0) then (
            bif decide ((c_4.length : Int) = 2) then (
              At d_4 0 fun u8 =>
              bif decide (u8.number = 2) then (
                bif decide (((((acceptOf ⟨0, [], []⟩ u6).2.1).length : Nat) : Int) = 0) then (
                  sp15.pre ((acceptOf ((acceptOf ⟨0, [], []⟩ u6).1) u7).2.1, [(⟨#[97]⟩ : ByteArray), (⟨#[98]⟩ : ByteArray)], ()) ∧
                  bif decide (((acceptOf ((acceptOf ⟨0, [], []⟩ u6).1) u7).2.1) = [(⟨#[97]⟩ : ByteArray), (⟨#[98]⟩ : ByteArray)]) then (
                    K (.bool (decide ((acceptOf ((acceptOf ⟨0, [], []⟩ u6).1) u7).2.2.1.ack = true) && (decide ((acceptOf ((acceptOf ⟨0, [], []⟩ u6).1) u7).2.2.1.number = 2) && (decide ((acceptOf ((acceptOf ⟨0, [], []⟩ u6).1) u7).2.2.1.data = (⟨#[]⟩ : ByteArray)) && (true))))) [])
                  else (
                    K (.bool false) []))
                else (
                  K (.bool false) []))
              else (
                K (.bool false) []))
            else (
              K (.bool false) []))
          else (
            K (.bool false) []))
        else (
          K (.bool false) []))
      else (
        K (.bool false) []))
    else (
      K (.bool false) []))
  else (
    K (.bool false) []))
def F5_B2 (K : Kn) (W2 : prodL [.int .i64, .sl .str, .int .i64, .int .i64, .int .i64, .int .i64, .sl .str, .sl .i64] → Prop) (e_1 : Int) (t_1 : List ByteArray) (t2_1 : Int) (t3_1 : Int) (s1_1 : Int) (s2_1 : Int) (s3_1 : List ByteArray) (s4_1 : List Int) : Prop :=
  bif decide (t3_1 < t2_1) then (
    At t_1 t3_1 fun u3 =>
  sp11.pre (s1_1, s2_1, s3_1, s4_1, u3, ()) ∧
  W2 (e_1, t_1, t2_1, IntKind.i64.wrap (t3_1 + 1), (offerOf ⟨s1_1, s2_1, s3_1, s4_1⟩ u3).1.base, (offerOf ⟨s1_1, s2_1, s3_1, s4_1⟩ u3).1.window, (offerOf ⟨s1_1, s2_1, s3_1, s4_1⟩ u3).1.data, (offerOf ⟨s1_1, s2_1, s3_1, s4_1⟩ u3).1.sent, ()))
  else (
    sp12.pre (s1_1, s2_1, s3_1, s4_1, 5, ()) ∧
  sp12.pre ((pollOf ⟨s1_1, s2_1, s3_1, s4_1⟩ 5).1.base, (pollOf ⟨s1_1, s2_1, s3_1, s4_1⟩ 5).1.window, (pollOf ⟨s1_1, s2_1, s3_1, s4_1⟩ 5).1.data, (pollOf ⟨s1_1, s2_1, s3_1, s4_1⟩ 5).1.sent, 8, ()) ∧
  sp12.pre ((pollOf ((pollOf ⟨s1_1, s2_1, s3_1, s4_1⟩ 5).1) 8).1.base, (pollOf ((pollOf ⟨s1_1, s2_1, s3_1, s4_1⟩ 5).1) 8).1.window, (pollOf ((pollOf ⟨s1_1, s2_1, s3_1, s4_1⟩ 5).1) 8).1.data, (pollOf ((pollOf ⟨s1_1, s2_1, s3_1, s4_1⟩ 5).1) 8).1.sent, 9, ()) ∧
  sp13.pre ((pollOf ((pollOf ((pollOf ⟨s1_1, s2_1, s3_1, s4_1⟩ 5).1) 8).1) 9).1.base, (pollOf ((pollOf ((pollOf ⟨s1_1, s2_1, s3_1, s4_1⟩ 5).1) 8).1) 9).1.window, (pollOf ((pollOf ((pollOf ⟨s1_1, s2_1, s3_1, s4_1⟩ 5).1) 8).1) 9).1.data, (pollOf ((pollOf ((pollOf ⟨s1_1, s2_1, s3_1, s4_1⟩ 5).1) 8).1) 9).1.sent, true, 1, (⟨#[]⟩ : ByteArray), ()) ∧
  sp12.pre ((ackOf ((pollOf ((pollOf ((pollOf ⟨s1_1, s2_1, s3_1, s4_1⟩ 5).1) 8).1) 9).1) ⟨true, 1, (⟨#[]⟩ : ByteArray)⟩).1.base, (ackOf ((pollOf ((pollOf ((pollOf ⟨s1_1, s2_1, s3_1, s4_1⟩ 5).1) 8).1) 9).1) ⟨true, 1, (⟨#[]⟩ : ByteArray)⟩).1.window, (ackOf ((pollOf ((pollOf ((pollOf ⟨s1_1, s2_1, s3_1, s4_1⟩ 5).1) 8).1) 9).1) ⟨true, 1, (⟨#[]⟩ : ByteArray)⟩).1.data, (ackOf ((pollOf ((pollOf ((pollOf ⟨s1_1, s2_1, s3_1, s4_1⟩ 5).1) 8).1) 9).1) ⟨true, 1, (⟨#[]⟩ : ByteArray)⟩).1.sent, 10, ()) ∧
  bif !decide (((((pollOf ⟨s1_1, s2_1, s3_1, s4_1⟩ 5).2).length : Nat) : Int) = 2) then (
    F5_J5 K e_1 ((pollOf ⟨s1_1, s2_1, s3_1, s4_1⟩ 5).2) ((pollOf ((pollOf ⟨s1_1, s2_1, s3_1, s4_1⟩ 5).1) 8).2) ((pollOf ((pollOf ((pollOf ⟨s1_1, s2_1, s3_1, s4_1⟩ 5).1) 8).1) 9).2) ((ackOf ((pollOf ((pollOf ((pollOf ⟨s1_1, s2_1, s3_1, s4_1⟩ 5).1) 8).1) 9).1) ⟨true, 1, (⟨#[]⟩ : ByteArray)⟩).2) ((pollOf ((ackOf ((pollOf ((pollOf ((pollOf ⟨s1_1, s2_1, s3_1, s4_1⟩ 5).1) 8).1) 9).1) ⟨true, 1, (⟨#[]⟩ : ByteArray)⟩).1) 10).2) true)
  else (
    F5_J5 K e_1 ((pollOf ⟨s1_1, s2_1, s3_1, s4_1⟩ 5).2) ((pollOf ((pollOf ⟨s1_1, s2_1, s3_1, s4_1⟩ 5).1) 8).2) ((pollOf ((pollOf ((pollOf ⟨s1_1, s2_1, s3_1, s4_1⟩ 5).1) 8).1) 9).2) ((ackOf ((pollOf ((pollOf ((pollOf ⟨s1_1, s2_1, s3_1, s4_1⟩ 5).1) 8).1) 9).1) ⟨true, 1, (⟨#[]⟩ : ByteArray)⟩).2) ((pollOf ((ackOf ((pollOf ((pollOf ((pollOf ⟨s1_1, s2_1, s3_1, s4_1⟩ 5).1) 8).1) 9).1) ⟨true, 1, (⟨#[]⟩ : ByteArray)⟩).1) 10).2) (!decide (((((pollOf ((ackOf ((pollOf ((pollOf ((pollOf ⟨s1_1, s2_1, s3_1, s4_1⟩ 5).1) 8).1) 9).1) ⟨true, 1, (⟨#[]⟩ : ByteArray)⟩).1) 10).2).length : Nat) : Int) = 1))))
def F5_L2 (K : Kn) (g : prodL [.int .i64, .sl .str, .int .i64, .int .i64, .int .i64, .int .i64, .sl .str, .sl .i64]) : Prop :=
  LoopW (γ := prodL [.int .i64, .sl .str, .int .i64, .int .i64, .int .i64, .int .i64, .sl .str, .sl .i64]) (fun V y => F5_B2 K V y.1 y.2.1 y.2.2.1 y.2.2.2.1 y.2.2.2.2.1 y.2.2.2.2.2.1 y.2.2.2.2.2.2.1 y.2.2.2.2.2.2.2.1) g
def F5 (g : prodL L5) (K : Kn) : Prop :=
  sp10.pre (2, ()) ∧
  F5_L2 K ((newOf 2).2, [(⟨#[97]⟩ : ByteArray), (⟨#[98]⟩ : ByteArray), (⟨#[99]⟩ : ByteArray)], (([(⟨#[97]⟩ : ByteArray), (⟨#[98]⟩ : ByteArray), (⟨#[99]⟩ : ByteArray)].length : Nat) : Int), 0, (newOf 2).1.base, (newOf 2).1.window, (newOf 2).1.data, (newOf 2).1.sent, ())
theorem F5_eq (g : prodL L5) (K X : Kn) : F5 g K = dfun D (gamX [] [(10, false, sp10), (11, false, sp11), (12, false, sp12), (13, false, sp13), (14, false, sp14), (15, true, sp15)]) (isRaw []) H5 J5 136 [.tmp 0] (codeOf Tryd.f5) (argsT S5 L5 g) [] (settle0 K) X := by kernel_rfl
theorem F5_ok (g : prodL L5) (K X : Kn) (h : F5 g K) : FCalls Tryd.prog 5 (argsT S5 L5 g) [] K X :=
  FCalls.settle0 (dfun_sound (Γ := gamX [] [(10, false, sp10), (11, false, sp11), (12, false, sp12), (13, false, sp13), (14, false, sp14), (15, true, sp15)]) (mu := isRaw []) (H := H5) (J := J5) D_ok (gamX_ok (rs := []) (l := [(10, false, sp10), (11, false, sp11), (12, false, sp12), (13, false, sp13), (14, false, sp14), (15, true, sp15)]) (fun p hp => by cases hp) (by intro p hp; simp only [List.mem_cons, List.not_mem_nil, or_false] at hp; rcases hp with rfl | rfl | rfl | rfl | rfl | rfl <;> first | exact sp10_ok | exact sp11_ok | exact sp12_ok | exact sp13_ok | exact sp14_ok | exact sp15_ok)) gamX_det rfl Tryd.func5 (c := codeOf Tryd.f5) rfl Tryd.ntmps5 (rs := [.tmp 0]) Tryd.results5 (by unfold enters; rw [Tryd.func5]; kernel_rfl) (Nat.le_of_ble_eq_true (by kernel_rfl)) (X := X) (c0 := 0) (Eq.mp (F5_eq g K X) h))
end Go.Proofs.YtofjpelbjehddaaDoor

/-
  Arq: the example of the chapter.
-/
namespace Go.Proofs.YtofjpelbjehddaaDoor
set_option linter.unusedVariables false
set_option linter.unusedSimpArgs false
set_option linter.unusedSectionVars false
open Go.RowKit

abbrev wA : ByteArray := ⟨#[97]⟩
abbrev wB : ByteArray := ⟨#[98]⟩
abbrev wC : ByteArray := ⟨#[99]⟩
theorem aw_n : newOf 2 = (⟨0, 2, [], []⟩, 0) := by kernel_rfl
theorem aw_o1 : offerOf ⟨0, 2, [], []⟩ wA = (⟨0, 2, [wA], [-1]⟩, 0) := by kernel_rfl
theorem aw_o2 : offerOf ⟨0, 2, [wA], [-1]⟩ wB = (⟨0, 2, [wA, wB], [-1, -1]⟩, 0) := by kernel_rfl
theorem aw_o3 : offerOf ⟨0, 2, [wA, wB], [-1, -1]⟩ wC = (⟨0, 2, [wA, wB, wC], [-1, -1, -1]⟩, 0) := by kernel_rfl
theorem aw_p1 : pollOf ⟨0, 2, [wA, wB, wC], [-1, -1, -1]⟩ 5 = (⟨0, 2, [wA, wB, wC], [5, 5, -1]⟩, [⟨false, 0, wA⟩, ⟨false, 1, wB⟩]) := by kernel_rfl
theorem aw_p2 : pollOf ⟨0, 2, [wA, wB, wC], [5, 5, -1]⟩ 8 = (⟨0, 2, [wA, wB, wC], [5, 5, -1]⟩, []) := by kernel_rfl
theorem aw_p3 : pollOf ⟨0, 2, [wA, wB, wC], [5, 5, -1]⟩ 9 = (⟨0, 2, [wA, wB, wC], [9, 9, -1]⟩, [⟨false, 0, wA⟩, ⟨false, 1, wB⟩]) := by kernel_rfl
theorem aw_k : ackOf ⟨0, 2, [wA, wB, wC], [9, 9, -1]⟩ ⟨true, 1, ⟨#[]⟩⟩ = (⟨1, 2, [wB, wC], [9, -1]⟩, 0) := by kernel_rfl
theorem aw_p4 : pollOf ⟨1, 2, [wB, wC], [9, -1]⟩ 10 = (⟨1, 2, [wB, wC], [9, 10]⟩, [⟨false, 2, wC⟩]) := by kernel_rfl
theorem aw_a1 : acceptOf ⟨0, [], []⟩ ⟨false, 1, wB⟩ = (⟨0, [false, true], [⟨#[]⟩, wB]⟩, [], ⟨true, 0, ⟨#[]⟩⟩, 0) := by kernel_rfl
theorem aw_a2 : acceptOf ⟨0, [false, true], [⟨#[]⟩, wB]⟩ ⟨false, 0, wA⟩ = (⟨2, [], []⟩, [wA, wB], ⟨true, 2, ⟨#[]⟩⟩, 0) := by kernel_rfl
def awS : Nat → prodL [.int .i64, .sl .str, .int .i64, .int .i64, .int .i64, .int .i64, .sl .str, .sl .i64]
  | 0 => (0, [wA, wB, wC], 3, 0, 0, 2, [], [], ())
  | 1 => (0, [wA, wB, wC], 3, 1, 0, 2, [wA], [-1], ())
  | 2 => (0, [wA, wB, wC], 3, 2, 0, 2, [wA, wB], [-1, -1], ())
  | _ => (0, [wA, wB, wC], 3, 3, 0, 2, [wA, wB, wC], [-1, -1, -1], ())
theorem F5_is {K : Kn} (h : K (.bool true) []) : F5 () K := by
  unfold F5
  refine ⟨trivial, ?_⟩
  rw [aw_n]
  unfold F5_L2
  refine LoopW.countTo 3 awS (fun _ => True) rfl (fun n hn _ W hW => ?_) trivial
  match n, hn with
  | 0, _ =>
    have hW := hW (by decide) trivial
    show F5_B2 K W 0 [wA, wB, wC] 3 0 0 2 [] []
    unfold F5_B2
    rw [show decide ((0 : Int) < 3) = true from rfl, cond_true]
    refine ⟨by decide, wA, rfl, trivial, ?_⟩
    rw [aw_o1]
    exact hW
  | 1, _ =>
    have hW := hW (by decide) trivial
    show F5_B2 K W 0 [wA, wB, wC] 3 1 0 2 [wA] [-1]
    unfold F5_B2
    rw [show decide ((1 : Int) < 3) = true from rfl, cond_true]
    refine ⟨by decide, wB, rfl, trivial, ?_⟩
    rw [aw_o2]
    exact hW
  | 2, _ =>
    have hW := hW (by decide) trivial
    show F5_B2 K W 0 [wA, wB, wC] 3 2 0 2 [wA, wB] [-1, -1]
    unfold F5_B2
    rw [show decide ((2 : Int) < 3) = true from rfl, cond_true]
    refine ⟨by decide, wC, rfl, trivial, ?_⟩
    rw [aw_o3]
    exact hW
  | 3, _ =>
    clear hW
    show F5_B2 K W 0 [wA, wB, wC] 3 3 0 2 [wA, wB, wC] [-1, -1, -1]
    unfold F5_B2
    rw [show decide ((3 : Int) < 3) = false from rfl, cond_false]
    simp only [aw_p1, aw_p2, aw_p3, aw_k, aw_p4]
    refine ⟨trivial, trivial, trivial, trivial, trivial, ?_⟩
    rw [show (!decide ((([(⟨false, 0, wA⟩ : Frm), ⟨false, 1, wB⟩].length : Nat) : Int) = 2)) = false from rfl, cond_false]
    rw [show (!decide ((([(⟨false, 2, wC⟩ : Frm)].length : Nat) : Int) = 1)) = false from rfl]
    unfold F5_J5
    rw [cond_false]
    refine ⟨by decide, ⟨false, 1, wB⟩, rfl, trivial, by decide, ⟨false, 0, wA⟩, rfl, trivial, ?_⟩
    simp only [aw_a1, aw_a2]
    rw [decide_true, cond_true, cond_true, cond_true, cond_true]
    rw [show decide ((([] : List Frm).length : Int) = 0) = true from rfl, cond_true]
    rw [show decide ((([(⟨false, 0, wA⟩ : Frm), ⟨false, 1, wB⟩].length : Nat) : Int) = 2) = true from rfl, cond_true]
    refine ⟨by decide, ⟨false, 2, wC⟩, rfl, ?_⟩
    dsimp only
    rw [show decide ((2 : Int) = 2) = true from rfl, cond_true]
    rw [show decide (((([] : List ByteArray).length : Nat) : Int) = 0) = true from rfl, cond_true]
    refine ⟨(by decide : 2 ≤ 4294967296), ?_⟩
    rw [cond_true]
    exact h
def sp5 : Sp := ⟨S5, L5, fun _ => True, fun _ => .bool true, fun _ => none⟩
theorem sp5_ok : sp5.Ok Tryd.prog 5 true :=
  ⟨fun _ _ X _ h => F5_ok _ _ X (F5_is h), fun _ _ _ => rfl, fun _ => rfl, fun _ _ => ⟨rfl, rfl⟩⟩
end Go.Proofs.YtofjpelbjehddaaDoor
