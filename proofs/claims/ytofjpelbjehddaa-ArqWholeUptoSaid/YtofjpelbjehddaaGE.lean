/-
  Arq: the law ArqOrder.
-/
import Derived.Test.YtofjpelbjehddaaGD
namespace Go.Proofs.Ytofjpelbjehddaa
set_option linter.unusedVariables false
set_option linter.unusedSimpArgs false
open Go.RowKit

theorem take_more {α : Type} {l : List α} {p q : Nat} (h : p ≤ q) : l.take p ++ (l.drop p).take (q - p) = l.take q := by
  rw [← List.take_add]; congr 1; omega
theorem F6_J23_is {K : Kn} {W : prodL [.sl .str, .sl .u8, .int .i64, .int .i64, .int .i64, .sl .boo, .sl .str, .sl .str] → Prop} {D : List ByteArray} {arr : List Int} {k n N p : Nat} {r : Rcv} (hI : RInv D r p) (hp : p ≤ D.length) (hk : k < D.length) (hD : D.length ≤ 30) (hsz : ∀ d ∈ D, d.size ≤ 20) (hn : n < N) (hN : N ≤ 1000)
    (hW : ∀ (r' : Rcv) (p' : Nat), RInv D r' p' → p' ≤ D.length → (∀ j, Known r p j → Known r' p' j) → Known r' p' k → W (D, arr, (N : Int), ((n + 1 : Nat) : Int), r'.next, r'.have_, r'.data, D.take p', ())) :
    F6_J23 K W D arr (k : Int) (N : Int) (n : Int) r.next r.have_ r.data (D.take p) := by
  obtain ⟨p', r', e, hpp, hI', hkn, hkk, -⟩ := accept_inv hI (List.getElem?_eq_getElem hk) (by omega) (by omega) fun d hd => Nat.le_trans (hsz d hd) (by decide)
  have hp' : p' ≤ D.length := by have := hI'.len; omega
  unfold F6_J23
  refine At_of hk ⟨trivial, ?_⟩
  rw [show (⟨r.next, r.have_, r.data⟩ : Rcv) = r from rfl, e]
  dsimp only
  rw [take_more hpp]
  have hl1 : (D.take p).length ≤ 30 := by rw [List.length_take]; omega
  have hl2 : ((D.drop p).take (p' - p)).length ≤ 30 := by rw [List.length_take, List.length_drop]; omega
  refine ⟨by omega, ?_⟩
  have hl3 : (D.take p').length = p' := by rw [List.length_take]; omega
  rw [show decide ((0 : Int) = 0) = true from rfl, Bool.not_true, cond_false, cond_false, decide_eq_true rfl, Bool.not_true, cond_false, decide_eq_true hI'.next.symm, Bool.not_true, cond_false, hl3, decide_eq_true hI'.next.symm, Bool.not_true, cond_false, decide_eq_false (by omega), cond_false, Int.toNat_natCast, Int.toNat_zero, List.drop_zero]
  refine ⟨by decide, by omega, by omega, (by omega : (D.take p').length ≤ 4294967296), ?_⟩
  rw [decide_eq_true rfl, Bool.not_true]
  unfold F6_J22 F6_J25
  rw [cond_false, wrapS hn (by omega)]
  exact hW r' p' hI' hp' hkn hkk
theorem F6_is {D : List ByteArray} {arr : List Int} {K : Kn} (hu : ∀ x ∈ arr, 0 ≤ x ∧ x ≤ 255) (h : K (.bool true) []) : F6 (D, arr, ()) K := by
  have yes : F6_J2 K D arr true := by
    unfold F6_J2
    rw [cond_true]; exact ⟨trivial, h⟩
  unfold F6
  dsimp only [Lf.ty, prodL]
  by_cases h1 : 30 < D.length
  · rw [show decide (30 < (D.length : Int)) = true from decide_eq_true (by omega), cond_true]; exact yes
  rw [show decide (30 < (D.length : Int)) = false from decide_eq_false (by omega), cond_false]
  by_cases h2 : 60 < arr.length
  · rw [show decide (60 < (arr.length : Int)) = true from decide_eq_true (by omega)]; exact yes
  rw [show decide (60 < (arr.length : Int)) = false from decide_eq_false (by omega)]
  clear yes
  unfold F6_J2
  rw [cond_false]
  unfold F6_L4
  refine LoopW.countTo D.length (fun n => (D, arr, D, (D.length : Int), (n : Int), ())) (fun n => ∀ d ∈ D.take n, d.size ≤ 20) rfl (fun n hn hp W hW => ?_) (by simp)
  dsimp only
  unfold F6_B4
  by_cases hlt : n < D.length
  · rw [show decide ((n : Int) < (D.length : Int)) = true from decide_eq_true (by omega), cond_true]
    refine At_of hlt ?_
    by_cases h3 : 20 < D[n].size
    · rw [show decide (20 < (D[n].size : Int)) = true from decide_eq_true (by omega), cond_true]
      exact ⟨trivial, h⟩
    · rw [show decide (20 < (D[n].size : Int)) = false from decide_eq_false (by omega), cond_false, wrapS hlt (by omega)]
      refine hW hlt fun d hd => ?_
      rw [take_snoc hlt] at hd
      rcases List.mem_append.1 hd with h4 | h4
      · exact hp d h4
      · simp at h4; subst h4; omega
  clear hW
  rw [show decide ((n : Int) < (D.length : Int)) = false from decide_eq_false (by omega), cond_false]
  rw [List.take_of_length_le (by omega)] at hp
  rw [wrap64 (n := (arr.length : Int) + (D.length : Int)) (by omega) (by omega), ← Int.natCast_add]
  unfold F6_L17
  refine LoopW.of (fun g => ∃ (n p : Nat) (r : Rcv), g = (D, arr, ((arr.length + D.length : Nat) : Int), (n : Int), r.next, r.have_, r.data, D.take p, ()) ∧ n ≤ arr.length + D.length ∧ RInv D r p ∧ p ≤ D.length ∧ ∀ j, j + arr.length < n → Known r p j) (fun g => arr.length + D.length - g.2.2.2.1.toNat) ?_ ⟨0, 0, ⟨0, [], []⟩, by rw [List.take_zero]; rfl, Nat.zero_le _, RInv.zero D, Nat.zero_le _, fun j hj => by omega⟩
  rintro _ ⟨n, p, r, rfl, hn, hI, hpD, hkn⟩ W hW
  dsimp only
  unfold F6_B17
  by_cases hlt : n < arr.length + D.length
  · rw [show decide ((n : Int) < ((arr.length + D.length : Nat) : Int)) = true from decide_eq_true (by omega), cond_true]
    by_cases ha : n < arr.length
    · rw [show decide ((n : Int) < (arr.length : Int)) = true from decide_eq_true (by omega), cond_true]
      by_cases h0 : D.length = 0
      · rw [show decide ((D.length : Int) = 0) = true from decide_eq_true (by omega), cond_true]
        unfold F6_J25
        rw [wrapS hlt (by omega)]
        exact hW _ ⟨n + 1, p, r, rfl, by omega, hI, hpD, fun j hj => by omega⟩ (by simp only [Int.toNat_natCast]; omega)
      · rw [show decide ((D.length : Int) = 0) = false from decide_eq_false (by omega), cond_false]
        refine At_of ha ⟨by omega, ?_⟩
        obtain ⟨u1, u2⟩ := hu arr[n] (List.getElem_mem ha)
        rw [wrap64 (n := arr[n]) (by omega) (by omega)]
        obtain ⟨m, hm⟩ := Int.eq_ofNat_of_zero_le u1
        rw [hm, Int.tmod_eq_emod_of_nonneg (by omega), ← Int.natCast_emod]
        exact F6_J23_is hI hpD (Nat.mod_lt _ (by omega)) (by omega) hp hlt (by omega) fun r' p' hI' hp' k1 k2 => hW _ ⟨n + 1, p', r', rfl, by omega, hI', hp', fun j hj => by omega⟩ (by simp only [Int.toNat_natCast]; omega)
    · rw [show decide ((n : Int) < (arr.length : Int)) = false from decide_eq_false (by omega), cond_false]
      rw [wrap64 (n := (n : Int) - (arr.length : Int)) (by omega) (by omega), show (n : Int) - (arr.length : Int) = ((n - arr.length : Nat) : Int) by omega]
      refine F6_J23_is hI hpD (by omega) (by omega) hp hlt (by omega) fun r' p' hI' hp' k1 k2 => hW _ ⟨n + 1, p', r', rfl, by omega, hI', hp', fun j hj => ?_⟩ (by simp only [Int.toNat_natCast]; omega)
      by_cases hj2 : j + arr.length < n
      · exact k1 j (hkn j hj2)
      · rw [show j = n - arr.length by omega]; exact k2
  · rw [show decide ((n : Int) < ((arr.length + D.length : Nat) : Int)) = false from decide_eq_false (by omega), cond_false]
    obtain ⟨e1, e2⟩ := known_all hI hpD fun j hj => hkn j (by omega)
    rw [show (D.take p).length = D.length by rw [List.length_take]; omega, decide_eq_true rfl, cond_true, e2]
    exact ⟨trivial, h⟩
theorem u8_wf {n : Int} (h : IntKind.u8.min ≤ n ∧ n ≤ IntKind.u8.max) : 0 ≤ n ∧ n ≤ 255 := by
  simp [IntKind.min, IntKind.max, IntKind.signed, IntKind.bits] at h
  omega
theorem arqOrder.calls (g : prodL L6) (hw : wfL L6 g) (hb : bkL L6 g ≤ 1048576) : FCalls Try.prog 6 (argsT S6 L6 g) [] (fun r _ => r = .bool true) fun _ _ => False := by
  obtain ⟨D, arr, u⟩ := g
  exact F6_ok _ _ _ (F6_is (fun x hx => u8_wf (hw.2.1 x hx)) rfl)
end Go.Proofs.Ytofjpelbjehddaa
