/-
  Arq: what its functions yield, in plain terms, 7: Accept.
-/
import Derived.Test.YtofjpelbjehddaaFH1
namespace Go.Proofs.Ytofjpelbjehddaa
set_option linter.unusedVariables false
set_option linter.unusedSimpArgs false
set_option linter.unusedSectionVars false
open Go.RowKit

def noRcv : Rcv := ⟨0, [], []⟩
def noFrm : Frm := ⟨false, 0, ⟨#[]⟩⟩
abbrev rcvT (r : Rcv) : T := .ag [.int .i64 r.next, .sl false .boo r.have_, .sl false .str r.data]
abbrev frmT (f : Frm) : T := .ag [.bool f.ack, .int .i64 f.number, .str f.data]
abbrev accT (x : Rcv × List ByteArray × Frm × Int) : T := .tu [rcvT x.1, .sl false .str x.2.1, frmT x.2.2.1, .int .i64 x.2.2.2]
def accErr (r : Rcv) (f : Frm) : Int := if r.ok = false then 1 else if f.ack = true then 8 else if f.number < 0 ∨ 1099511627776 ≤ f.number then 2 else if 65472 < f.data.size then 4 else if r.next + 64 ≤ f.number then 17 else 0
def acceptOf (r : Rcv) (f : Frm) : Rcv × List ByteArray × Frm × Int :=
  if accErr r f ≠ 0 then (noRcv, [], noFrm, accErr r f) else
  if f.number - r.next < 0 ∨ r.have_[(f.number - r.next).toNat]? = some true then (r, [], ⟨true, r.next, ⟨#[]⟩⟩, 0) else
  let hv := putL false r.have_ (f.number - r.next).toNat true
  let data := putL ⟨#[]⟩ r.data (f.number - r.next).toNat f.data
  let n := hv.idxOf false
  (⟨r.next + (n : Int), hv.drop n, data.drop n⟩, data.take n, ⟨true, r.next + (n : Int), ⟨#[]⟩⟩, 0)
theorem wk_acc {K : Kn} {e : Int} (h : K (accT (noRcv, [], noFrm, e)) []) : wkK K (.tu [.ag [.int .i64 0, .nil, .nil], .nil, .ag [.bool false, .int .i64 0, .str ⟨#[]⟩], .int .i64 e]) [] :=
  ⟨_, .tu (.cons (.ag (.cons (.refl _) (.cons (.nil .boo) (.cons (.nil .str) .nil)))) (.cons (.nil .str) (.cons (.refl _) (.cons (.refl _) .nil)))), h⟩
theorem wk_acc2 {K : Kn} {r : Rcv} (h : K (accT (r, [], ⟨true, r.next, ⟨#[]⟩⟩, 0)) []) : wkK K (.tu [rcvT r, .nil, .ag [.bool true, .int .i64 r.next, .str ⟨#[]⟩], .int .i64 0]) [] :=
  ⟨_, .tu (.cons (.refl _) (.cons (.nil .str) (.cons (.refl _) (.cons (.refl _) .nil)))), h⟩
theorem putL_len {α : Type} {z : α} {l : List α} {i : Nat} {x : α} : (putL z l i x).length = max l.length (i + 1) := by
  unfold putL
  simp; omega
theorem F24_is {r : Rcv} {f : Frm} {K : Kn} (h : K (accT (acceptOf r f)) []) : F24 (r.next, r.have_, r.data, f.ack, f.number, f.data, ()) (wkK K) := by
  obtain ⟨nx, hv, data⟩ := r
  obtain ⟨a, m, d⟩ := f
  have err : ∀ {e : Int}, e ≠ 0 → accErr ⟨nx, hv, data⟩ ⟨a, m, d⟩ = e → F24_J9 (wkK K) e nx hv data a m d 0 false 0 ⟨#[]⟩ := fun {e} he hh => by
    unfold acceptOf at h
    rw [hh, if_pos he] at h
    unfold F24_J9
    rw [decide_eq_false he, Bool.not_false, cond_true]
    exact wk_acc h
  unfold F24
  dsimp only [Lf.ty, prodL]
  refine ⟨trivial, ?_⟩
  unfold accErr at err
  cases h1 : Rcv.ok ⟨nx, hv, data⟩
  · rw [Bool.not_false, cond_true]
    exact err (by decide) (by rw [if_pos h1])
  rw [Bool.not_true, cond_false]
  rw [if_neg (by rw [h1]; decide)] at err
  cases a
  case true =>
    rw [cond_true]
    exact err (by decide) (by rw [if_pos rfl])
  rw [cond_false]
  rw [if_neg (by simp)] at err
  unfold F24_J2
  by_cases h2 : m < 0
  · rw [decide_eq_true h2, cond_true, cond_true]
    exact err (by decide) (by rw [if_pos (.inl h2)])
  rw [decide_eq_false h2, cond_false]
  by_cases h3 : 1099511627776 ≤ m
  · rw [decide_eq_true h3, cond_true]
    exact err (by decide) (by rw [if_pos (.inr h3)])
  rw [decide_eq_false h3, cond_false]
  rw [if_neg (by dsimp only; omega)] at err
  by_cases h4 : 65472 < d.size
  · rw [show decide (65472 < (d.size : Int)) = true from decide_eq_true (by omega), cond_true]
    exact err (by decide) (by rw [if_pos h4])
  rw [show decide (65472 < (d.size : Int)) = false from decide_eq_false (by omega), cond_false]
  rw [if_neg h4] at err
  obtain ⟨k1, k2, k3, k4, k5⟩ : ROk ⟨nx, hv, data⟩ := of_decide_eq_true h1
  dsimp only at k2 k3
  have k1 := of_decide_eq_true k1
  dsimp only at k1
  rw [wrap64 (by omega) (by omega)]
  by_cases h5 : nx + 64 ≤ m
  · rw [decide_eq_true h5, cond_true]
    exact err (by decide) (by rw [if_pos h5])
  rw [decide_eq_false h5, cond_false]
  clear err
  have he : accErr ⟨nx, hv, data⟩ ⟨false, m, d⟩ = 0 := by
    unfold accErr
    rw [if_neg (by rw [h1]; decide), if_neg (by simp), if_neg (by dsimp only; omega), if_neg h4, if_neg h5]
  unfold acceptOf at h
  rw [he, if_neg (by decide)] at h
  dsimp only at h
  unfold F24_J9
  rw [decide_eq_true rfl, Bool.not_true, cond_false, wrap64 (by omega) (by omega)]
  unfold F24_J6
  by_cases h6 : m - nx < 0
  · rw [if_pos (.inl h6)] at h
    rw [decide_eq_true h6, cond_true, cond_true]
    exact wk_acc2 h
  rw [decide_eq_false h6, cond_false]
  obtain ⟨i, hi⟩ := Int.eq_ofNat_of_zero_le (a := m - nx) (by omega)
  rw [hi, Int.toNat_natCast] at h
  rw [hi, Int.toNat_natCast]
  have hi64 : i < 64 := by omega
  have tail : ¬ hv[i]? = some true → sp40.pre (nx, hv, data, (i : Int), d, ()) ∧ sp41.pre (putL false hv i true, false, ()) ∧ bif decide (ixOf (putL false hv i true) false < 0) then F24_J8 (wkK K) (((putL false hv i true).length : Nat) : Int) nx (putL false hv i true) (putL ⟨#[]⟩ data i d) 0 false 0 ⟨#[]⟩ else F24_J8 (wkK K) (ixOf (putL false hv i true) false) nx (putL false hv i true) (putL ⟨#[]⟩ data i d) 0 false 0 ⟨#[]⟩ := fun hn => by
    rw [if_neg (by rintro (h7 | h7); omega; exact hn h7)] at h
    have l1 : (putL false hv i true).length = max hv.length (i + 1) := putL_len
    have l2 : (putL (⟨#[]⟩ : ByteArray) data i d).length = max data.length (i + 1) := putL_len
    refine ⟨⟨⟨(by omega : (0 : Int) ≤ (i : Int)), (by omega : (i : Int) ≤ 1000)⟩, k2, k3⟩, by show (putL false hv i true).length ≤ 4294967296; omega, ?_⟩
    generalize putL false hv i true = H at *
    generalize putL (⟨#[]⟩ : ByteArray) data i d = Dd at *
    have fin : ∀ n : Nat, n = H.idxOf false → F24_J8 (wkK K) (n : Int) nx H Dd 0 false 0 ⟨#[]⟩ := fun n hn => by
      have hle : n ≤ H.length := by rw [hn]; exact List.idxOf_le_length
      subst hn
      unfold F24_J8
      rw [wrap64 (n := nx + ((H.idxOf false : Nat) : Int)) (by omega) (by omega), Int.toNat_natCast, Int.toNat_zero, List.drop_zero]
      exact ⟨by decide, by omega, by omega, by show (Dd.take _).length ≤ 4294967296; rw [List.length_take]; omega, by omega, by omega, by show (H.drop _).length ≤ 4294967296; rw [List.length_drop]; omega, by omega, by omega, by show (Dd.drop _).length ≤ 4294967296; rw [List.length_drop]; omega, wkK.same h⟩
    unfold ixOf
    by_cases hm : false ∈ H
    · rw [if_pos hm, decide_eq_false (by omega), cond_false]
      exact fin _ rfl
    · rw [if_neg hm, show decide ((-1 : Int) < 0) = true by decide, cond_true]
      exact fin _ (List.idxOf_eq_length hm).symm
  by_cases h7 : i < hv.length
  · rw [show decide ((i : Int) < (hv.length : Int)) = true from decide_eq_true (by omega), cond_true]
    refine At_of h7 ?_
    cases h8 : hv[i]
    · rw [cond_false]
      exact tail (by rw [List.getElem?_eq_getElem h7, h8]; simp)
    · rw [cond_true]
      rw [if_pos (.inr (by rw [List.getElem?_eq_getElem h7, h8]))] at h
      exact wk_acc2 h
  · rw [show decide ((i : Int) < (hv.length : Int)) = false from decide_eq_false (by omega), cond_false, cond_false]
    exact tail (by rw [List.getElem?_eq_none (by omega)]; simp)
def sp24 : Sp := ⟨S24, L24, fun _ => True, fun g => accT (acceptOf ⟨g.1, g.2.1, g.2.2.1⟩ ⟨g.2.2.2.1, g.2.2.2.2.1, g.2.2.2.2.2.1⟩), fun _ => none⟩
theorem sp24_ok : sp24.Ok Try.prog 24 false :=
  ⟨fun g _ X _ h => FCalls.weak (F24_ok _ _ X (F24_is (r := ⟨g.1, g.2.1, g.2.2.1⟩) (f := ⟨g.2.2.2.1, g.2.2.2.2.1, g.2.2.2.2.2.1⟩) h)), fun _ _ _ => rfl, fun _ => rfl, fun h => by cases h⟩
end Go.Proofs.Ytofjpelbjehddaa
