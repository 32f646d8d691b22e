/-
  Proto: messages with patches of limited size.
-/
import Derived.Test.YtoclmkbjgmgekaaDoorPL
namespace Go.Proofs.YtoclmkbjgmgekaaDoor
set_option linter.unusedVariables false
set_option linter.unusedSimpArgs false
set_option linter.unusedSectionVars false
open Go.RowKit
/-- The bytes of an atom. -/
def szA (s : ByteArray) : Int := (((decB s.size).size : Int) + 1) + (s.size : Int)
def szs : List ByteArray → Int
  | [] => 0
  | s :: r => szA s + szs r
theorem szA_pos (s : ByteArray) : 1 ≤ szA s := by unfold szA; omega
theorem szs_nonneg : ∀ l : List ByteArray, 0 ≤ szs l
  | [] => by simp [szs]
  | s :: r => by have := szA_pos s; have := szs_nonneg r; simp only [szs]; omega
theorem szs_app : ∀ a b : List ByteArray, szs (a ++ b) = szs a + szs b
  | [], b => by simp [szs]
  | s :: r, b => by simp only [List.cons_append, szs, szs_app r b]; omega
/-- How many strings fit. -/
def takeN (most : Int) : Int → List ByteArray → Nat
  | _, [] => 0
  | b, s :: r => if b + szA s ≤ most then takeN most (b + szA s) r + 1 else 0
def msg3 (l : List ByteArray) : Msg := ⟨3, ⟨#[]⟩, [], [], l, [], 0, ⟨#[]⟩, sgn0⟩
def batF (most : Int) : Nat → List ByteArray → List Msg
  | 0, _ => []
  | n + 1, l => if l = [] then [] else msg3 (l.take (takeN most 11 l)) :: batF most n (l.drop (takeN most 11 l))
def batL (most : Int) (l : List ByteArray) : List Msg := batF most l.length l
/-- Batches, of both. -/
def batT (l : List ByteArray) (most : Int) : List Msg × Int :=
  if most < 1 ∨ 65536 < most then ([], 2) else if l.any (fun s => decide (most < 11 + szA s)) = true then ([], 4) else (batL most l, 0)
theorem takeN_le (most : Int) : ∀ (l : List ByteArray) (b : Int), takeN most b l ≤ l.length
  | [], _ => Nat.le_refl 0
  | s :: r, b => by
    unfold takeN
    split
    · have := takeN_le most r (b + szA s); simp only [List.length_cons]; omega
    · exact Nat.zero_le _
/-- All that is taken fits, and no more would. -/
theorem takeN_iff (most : Int) : ∀ (l : List ByteArray) (b : Int) (n : Nat), n < l.length → b + szs (l.take n) ≤ most ∨ n = 0 → (n < takeN most b l ↔ n ≤ takeN most b l ∧ b + szs (l.take (n + 1)) ≤ most)
  | [], _, n, h, _ => by simp at h
  | s :: r, b, 0, _, _ => by
    unfold takeN
    simp only [List.take_succ_cons, List.take_zero, szs]
    split <;> simp <;> omega
  | s :: r, b, n + 1, h, h2 => by
    have e : b + szs ((s :: r).take (n + 1)) ≤ most := by omega
    simp only [List.take_succ_cons, szs] at e ⊢
    have hp := szs_nonneg (r.take n)
    have hb : b + szA s ≤ most := by omega
    unfold takeN
    rw [if_pos hb]
    have := takeN_iff most r (b + szA s) n (by simpa using h) (Or.inl (by omega))
    have e2 : b + (szA s + szs (r.take (n + 1))) = b + szA s + szs (r.take (n + 1)) := by omega
    rw [e2]
    omega
theorem takeN_fits (most : Int) : ∀ (l : List ByteArray) (b : Int), b ≤ most → b + szs (l.take (takeN most b l)) ≤ most
  | [], b, h => by simpa [takeN, szs] using h
  | s :: r, b, h => by
    unfold takeN
    split
    · rename_i hb
      have := takeN_fits most r (b + szA s) hb
      simp only [List.take_succ_cons, szs]; omega
    · simpa [szs] using h
theorem takeN_pos {most b : Int} {s : ByteArray} {r : List ByteArray} : 0 < takeN most b (s :: r) ↔ b + szA s ≤ most := by
  unfold takeN
  split <;> simp [*] <;> omega
theorem batF_fuel {most : Int} : ∀ (n m : Nat) (l : List ByteArray), l.length ≤ n → l.length ≤ m → (∀ s ∈ l, 11 + szA s ≤ most) → batF most n l = batF most m l
  | 0, m, l, h, _, _ => by
    have : l = [] := List.length_eq_zero_iff.1 (by omega)
    subst this
    cases m <;> simp [batF]
  | n + 1, 0, l, _, h, _ => by
    have : l = [] := List.length_eq_zero_iff.1 (by omega)
    subst this
    simp [batF]
  | n + 1, m + 1, [], _, _, _ => by simp [batF]
  | n + 1, m + 1, s :: r, h1, h2, h => by
    have hp : 0 < takeN most 11 (s :: r) := takeN_pos.2 (h s (List.mem_cons_self ..))
    unfold batF
    rw [if_neg (by simp), if_neg (by simp)]
    congr 1
    refine batF_fuel n m _ ?_ ?_ fun x hx => h x (List.mem_of_mem_drop hx)
    · simp only [List.length_drop, List.length_cons] at h1 ⊢; omega
    · simp only [List.length_drop, List.length_cons] at h2 ⊢; omega
theorem batL_nil (most : Int) : batL most [] = [] := rfl
theorem batL_cons {most : Int} {l : List ByteArray} (hl : l ≠ []) (h : ∀ s ∈ l, 11 + szA s ≤ most) : batL most l = msg3 (l.take (takeN most 11 l)) :: batL most (l.drop (takeN most 11 l)) := by
  obtain ⟨s, r, rfl⟩ : ∃ s r, l = s :: r := by cases l with
    | nil => exact absurd rfl hl
    | cons s r => exact ⟨s, r, rfl⟩
  have hp : 0 < takeN most 11 (s :: r) := takeN_pos.2 (h s (List.mem_cons_self ..))
  show batF most (r.length + 1) (s :: r) = _
  unfold batF
  rw [if_neg (by simp)]
  congr 1
  refine batF_fuel _ _ _ ?_ (Nat.le_refl _) fun x hx => h x (List.mem_of_mem_drop hx)
  simp only [List.length_drop, List.length_cons]; omega
/-! ### The encoding of a message with patches -/
theorem encB_atom (s : ByteArray) : ((encB (atomX s)).size : Int) = szA s := by
  simp only [atomX, encB, if_true, ByteArray.size_append, szA]
  have : (⟨#[58]⟩ : ByteArray).size = 1 := rfl
  rw [this]; omega
theorem encBs_atoms : ∀ (l : List ByteArray) (s : ByteArray), ((encBs (atomsX l) s).size : Int) = s.size + szs l
  | [], s => by simp [atomsX, encBs, szs]
  | a :: l, s => by
    have := encBs_atoms l (s ++ encB (atomX a))
    have h := encB_atom a
    simp only [atomsX, List.map_cons, encBs, szs] at this ⊢
    rw [this, ByteArray.size_append]; omega
theorem enc3 (l : List ByteArray) : ((encB (sexpX (msg3 l))).size : Int) = 11 + szs l := by
  have hw : wordN 3 = ⟨#[112, 97, 116, 99, 104, 101, 115]⟩ := rfl
  have e : sexpX (msg3 l) = ⟨true, ⟨#[]⟩, atomX ⟨#[112, 97, 116, 99, 104, 101, 115]⟩ :: atomsX l⟩ := rfl
  rw [e]
  simp only [encB, Bool.true_eq_false, if_false, encBs, ByteArray.size_append]
  have h := encBs_atoms l (⟨#[40]⟩ ++ encB (atomX ⟨#[112, 97, 116, 99, 104, 101, 115]⟩))
  have h2 := encB_atom ⟨#[112, 97, 116, 99, 104, 101, 115]⟩
  have h3 : szA ⟨#[112, 97, 116, 99, 104, 101, 115]⟩ = 9 := by
    have : decB ((7 : Nat) : Int) = ⟨#[UInt8.ofNat (48 + 7)]⟩ := decB_one (by omega)
    unfold szA
    rw [show (⟨#[112, 97, 116, 99, 104, 101, 115]⟩ : ByteArray).size = 7 from rfl, this]; rfl
  have h4 : (⟨#[40]⟩ : ByteArray).size = 1 := rfl
  have h5 : (⟨#[41]⟩ : ByteArray).size = 1 := rfl
  rw [h3] at h2
  rw [ByteArray.size_append, h4] at h
  rw [h5]
  omega
theorem cnts_atoms : ∀ (l : List ByteArray) (n : Int), n + l.length ≤ 20000 → cnts (atomsX l) 20000 11 n = n + l.length
  | [], n, _ => by simp [atomsX, cnts]
  | a :: l, n, h => by
    simp only [List.length_cons] at h
    have := cnts_atoms l (n + 1) (by omega)
    simp only [atomsX, List.map_cons, cnts] at this ⊢
    rw [if_pos (by omega)]
    have e : cnt (atomX a) (20000 - n) 11 = 1 := by
      simp only [atomX, cnt]
      rw [if_neg (by omega)]; simp
    rw [e, this]
    simp only [List.length_cons]; omega
theorem ckRs_atoms : ∀ (l : List ByteArray), (∀ s ∈ l, s.size ≤ 65536) → ckRs (atomsX l) = 0
  | [], _ => rfl
  | a :: l, h => by
    have ha := h a (List.mem_cons_self ..)
    have := ckRs_atoms l fun s hs => h s (List.mem_cons_of_mem _ hs)
    have e : ckR (atomX a) = 0 := by
      simp only [atomX, ckR, List.length_nil, Nat.lt_irrefl, if_true, if_false]
      rw [if_neg (by omega)]
    simp only [atomsX, List.map_cons, ckRs] at this ⊢
    rw [e, if_pos rfl, this]
theorem ck3 {l : List ByteArray} (hn : l.length ≤ 19000) (h : ∀ s ∈ l, s.size ≤ 65536) : ckG (sexpX (msg3 l)) = 0 := by
  rw [check_eq]
  have e : sexpX (msg3 l) = ⟨true, ⟨#[]⟩, atomsX (⟨#[112, 97, 116, 99, 104, 101, 115]⟩ :: l)⟩ := rfl
  rw [e]
  unfold ckN
  have h1 : cnt ⟨true, ⟨#[]⟩, atomsX (⟨#[112, 97, 116, 99, 104, 101, 115]⟩ :: l)⟩ 20000 12 = 2 + l.length := by
    simp only [cnt]
    rw [if_neg (by omega), if_neg (by simp)]
    have := cnts_atoms (⟨#[112, 97, 116, 99, 104, 101, 115]⟩ :: l) 1 (by simp only [List.length_cons]; omega)
    simp only [List.length_cons] at this
    rw [show (12 : Int) - 1 = 11 from rfl, this]; omega
  rw [h1, if_neg (by omega)]
  simp only [ckR, Bool.true_eq_false, if_false, ne_eq, not_true_eq_false]
  refine ckRs_atoms _ fun s hs => ?_
  rcases List.mem_cons.1 hs with rfl | hs
  · decide
  · exact h s hs
theorem chk3 {l : List ByteArray} (hn : l.length ≤ 19000) (h : ∀ s ∈ l, s.size ≤ 65536) : chk (msg3 l) = if 65536 < 11 + szs l then (⟨#[]⟩, 4) else (encB (sexpX (msg3 l)), 0) := by
  have h1 := ck3 hn h
  have h2 := enc3 l
  have h3 : enT (sexpX (msg3 l)) = (encB (sexpX (msg3 l)), 0) := by unfold enT; rw [if_pos h1]
  have h4 : foreign (msg3 l) = false := rfl
  have h5 : numbered (msg3 l) = true := rfl
  unfold chk
  rw [if_neg (by simp [msg3]), h4, h5, h3]
  simp only [Bool.false_eq_true, Bool.true_eq_false, if_false, ne_eq, not_true_eq_false, false_or]
  by_cases c : 65536 < 11 + szs l
  · rw [if_pos (by omega), if_pos c]
  · rw [if_neg (by omega), if_neg c]
/-- What the reference asks. -/
theorem fits3 {l : List ByteArray} {most : Int} (hm : most ≤ 65536) (hn : l.length ≤ 19000) (h : ∀ s ∈ l, s.size ≤ 65536) : ((chk (msg3 l)).2 = 0 ∧ ((chk (msg3 l)).1.size : Int) ≤ most) ↔ 11 + szs l ≤ most := by
  have h2 := enc3 l
  rw [chk3 hn h]
  split
  · simp; omega
  · simp only [true_and]; omega
end Go.Proofs.YtoclmkbjgmgekaaDoor
