/-
  Proto: the chapter's examples.
-/
import Derived.Test.YtoclmkbjgmgekaaDoorPK
import Derived.Test.YtoclmkbjgmgekaaDoorPI
namespace Go.Proofs.YtoclmkbjgmgekaaDoor
set_option linter.unusedVariables false
set_option linter.unusedSimpArgs false
set_option linter.unusedSectionVars false
open Go.RowKit
theorem ckA {l : List ByteArray} (hn : l.length ≤ 19000) (h : ∀ s ∈ l, s.size ≤ 65536) : ckG (listX (atomsX l)) = 0 := by
  rw [check_eq]
  unfold ckN listX
  have h1 : cnt ⟨true, ⟨#[]⟩, atomsX l⟩ 20000 12 = 1 + l.length := by
    simp only [cnt]
    rw [if_neg (by omega), if_neg (by simp)]
    exact cnts_atoms l 1 (by omega)
  rw [h1, if_neg (by omega)]
  simp only [ckR, Bool.true_eq_false, if_false, ne_eq, not_true_eq_false]
  exact ckRs_atoms l h
theorem chkA {m : Msg} {l : List ByteArray} (hk : ¬ (m.kind < 1 ∨ 7 < m.kind)) (hf : foreign m = false) (hu : numbered m = true) (hx : sexpX m = listX (atomsX l)) (hn : l.length ≤ 19000) (h : ∀ s ∈ l, s.size ≤ 65536) (hs : (encB (listX (atomsX l))).size ≤ 65536) : chk m = (encB (listX (atomsX l)), 0) := by
  have h1 := ckA hn h
  unfold chk
  rw [if_neg hk, hf, hu, hx, en_ok h1]
  simp only [Bool.false_eq_true, Bool.true_eq_false, if_false, ne_eq, not_true_eq_false, false_or]
  rw [if_neg (by omega)]
theorem msgP_k {k c : Int} {t : ByteArray} (hk : 0 ≤ k ∧ k ≤ 100) (hc : 0 ≤ c ∧ c ≤ 100) (ht : t.size ≤ 100) : msgP ⟨k, ⟨#[]⟩, [], [], [], [], c, t, ⟨0, [], [], []⟩⟩ := by
  have i : ∀ n : Int, 0 ≤ n ∧ n ≤ 100 → IntKind.i64.min ≤ n ∧ n ≤ IntKind.i64.max := fun n h => by
    have h1 : IntKind.i64.min = -9223372036854775808 := rfl
    have h2 : IntKind.i64.max = 9223372036854775807 := rfl
    omega
  constructor
  · exact ⟨i k hk, fun y hy => by simp at hy, fun y hy => by simp at hy, fun y hy => by simp at hy, fun y hy => by simp at hy, i c hc, i 0 (by omega), fun y hy => by simp at hy, fun y hy => by simp at hy, fun y hy => by simp at hy⟩
  · have e : (⟨#[]⟩ : ByteArray).size = 0 := rfl
    simp only [bk_msg, List.map_nil, List.sum_nil, e]
    omega
theorem ch_want : chk ⟨2, ⟨#[]⟩, [], [], [], [], 0, ⟨#[]⟩, ⟨0, [], [], []⟩⟩ = (⟨#[40, 52, 58, 119, 97, 110, 116, 41]⟩, 0) := by
  have h4 : decB ((4 : Nat) : Int) = ⟨#[UInt8.ofNat (48 + 4)]⟩ := decB_one (by omega)
  have e : encB (listX (atomsX [⟨#[119, 97, 110, 116]⟩])) = ⟨#[40, 52, 58, 119, 97, 110, 116, 41]⟩ := by
    simp only [listX, atomsX, List.map_cons, List.map_nil, atomX, encB, encBs, Bool.true_eq_false, if_true, if_false]
    rw [show (⟨#[119, 97, 110, 116]⟩ : ByteArray).size = 4 from rfl, h4]
    rfl
  rw [chkA (l := [⟨#[119, 97, 110, 116]⟩]) (by show ¬ ((2 : Int) < 1 ∨ 7 < (2 : Int)); omega) rfl rfl rfl (by simp) (fun s hs => by simp at hs; subst hs; exact Nat.le_of_ble_eq_true rfl) (by rw [e]; exact Nat.le_of_ble_eq_true rfl), e]
theorem num7 : numX 7 = atomX ⟨#[55]⟩ := by
  have h7 : decB ((7 : Nat) : Int) = ⟨#[UInt8.ofNat (48 + 7)]⟩ := decB_one (by omega)
  show (intB ((7 : Nat) : Int)).1 = _
  unfold intB
  rw [if_neg (by omega), h7]; rfl
theorem ch_reply : chk ⟨6, ⟨#[]⟩, [], [], [], [], 7, ⟨#[110, 111]⟩, ⟨0, [], [], []⟩⟩ = (⟨#[40, 53, 58, 114, 101, 112, 108, 121, 49, 58, 55, 50, 58, 110, 111, 41]⟩, 0) := by
  have h1 : decB ((1 : Nat) : Int) = ⟨#[UInt8.ofNat (48 + 1)]⟩ := decB_one (by omega)
  have h2 : decB ((2 : Nat) : Int) = ⟨#[UInt8.ofNat (48 + 2)]⟩ := decB_one (by omega)
  have h5 : decB ((5 : Nat) : Int) = ⟨#[UInt8.ofNat (48 + 5)]⟩ := decB_one (by omega)
  have e : encB (listX (atomsX [⟨#[114, 101, 112, 108, 121]⟩, ⟨#[55]⟩, ⟨#[110, 111]⟩])) = ⟨#[40, 53, 58, 114, 101, 112, 108, 121, 49, 58, 55, 50, 58, 110, 111, 41]⟩ := by
    simp only [listX, atomsX, List.map_cons, List.map_nil, atomX, encB, encBs, Bool.true_eq_false, if_true, if_false]
    rw [show (⟨#[114, 101, 112, 108, 121]⟩ : ByteArray).size = 5 from rfl, show (⟨#[55]⟩ : ByteArray).size = 1 from rfl, show (⟨#[110, 111]⟩ : ByteArray).size = 2 from rfl, h1, h2, h5]
    rfl
  have hx : sexpX ⟨6, ⟨#[]⟩, [], [], [], [], 7, ⟨#[110, 111]⟩, ⟨0, [], [], []⟩⟩ = listX (atomsX [⟨#[114, 101, 112, 108, 121]⟩, ⟨#[55]⟩, ⟨#[110, 111]⟩]) := by
    show listX [atomX ⟨#[114, 101, 112, 108, 121]⟩, numX 7, atomX ⟨#[110, 111]⟩] = _
    rw [num7]; rfl
  rw [chkA (l := [⟨#[114, 101, 112, 108, 121]⟩, ⟨#[55]⟩, ⟨#[110, 111]⟩]) (by show ¬ ((6 : Int) < 1 ∨ 7 < (6 : Int)); omega) rfl rfl hx (by simp) (fun s hs => by
    simp only [List.mem_cons, List.not_mem_nil, or_false] at hs
    rcases hs with rfl | rfl | rfl <;> exact Nat.le_of_ble_eq_true rfl) (by rw [e]; exact Nat.le_of_ble_eq_true rfl), e]
theorem szA_one (c : UInt8) : szA ⟨#[c]⟩ = 3 := by
  have h1 : decB ((1 : Nat) : Int) = ⟨#[UInt8.ofNat (48 + 1)]⟩ := decB_one (by omega)
  unfold szA
  rw [show (⟨#[c]⟩ : ByteArray).size = 1 from rfl, h1]; rfl
theorem bat17 : batT [⟨#[97]⟩, ⟨#[98]⟩] 17 = ([msg3 [⟨#[97]⟩, ⟨#[98]⟩]], 0) := by
  simp [batT, batL, batF, takeN, szA_one]
theorem bat16 : batT [⟨#[97]⟩, ⟨#[98]⟩] 16 = ([msg3 [⟨#[97]⟩], msg3 [⟨#[98]⟩]], 0) := by
  simp [batT, batL, batF, takeN, szA_one]
def sp11 : Sp := ⟨S11, L11, fun _ => True, fun _ => .bool true, fun _ => none⟩
theorem sp11_ok : sp11.Ok Tryd.prog 11 true :=
  ⟨fun g K X _ h => F11_ok g K X (by
    have hs : smallS [(⟨#[97]⟩ : ByteArray), ⟨#[98]⟩] := by show (2 : Nat) + (2 + 0) ≤ 4000; omega
    unfold F11
    refine ⟨msgP_k (k := 2) (c := 0) (t := ⟨#[]⟩) (by decide) (by decide) (Nat.zero_le _), msgP_k (k := 6) (c := 7) (t := ⟨#[110, 111]⟩) (by decide) (by decide) (by show (2 : Nat) ≤ 100; omega), hs, hs, ?_⟩
    rw [ch_want, ch_reply, bat17, bat16]
    exact h), fun _ _ _ => rfl, fun _ => rfl, fun _ _ => ⟨rfl, rfl⟩⟩
end Go.Proofs.YtoclmkbjgmgekaaDoor
