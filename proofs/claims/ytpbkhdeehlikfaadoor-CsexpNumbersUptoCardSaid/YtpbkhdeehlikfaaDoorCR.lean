/-
  Csexp: Decimal (the reference's).
-/
import Derived.Test.YtpbkhdeehlikfaaDoorCQ
namespace Go.Proofs.YtpbkhdeehlikfaaDoor
set_option linter.unusedVariables false
set_option linter.unusedSimpArgs false
set_option linter.unusedSectionVars false
open Go.RowKit

theorem bl_app (a b : ByteArray) : bl (a ++ b) = bl a ++ bl b := by simp [bl, ByteArray.data_append]
theorem dec_min : decB (-9223372036854775808) = (⟨#[45, 57, 50, 50, 51, 51, 55, 50, 48, 51, 54, 56, 53, 52, 55, 55, 53, 56, 48, 56]⟩ : ByteArray) := by
  apply bl_inj
  rw [bl_dec, Lib.itoa, if_pos (by decide)]
  have h := dec_uniq 19 [57, 50, 50, 51, 51, 55, 50, 48, 51, 54, 56, 53, 52, 55, 55, 53, 56, 48, 56] rfl (by decide) (by simp) (.inl (by decide))
  have e : dv 0 [57, 50, 50, 51, 51, 55, 50, 48, 51, 54, 56, 53, 52, 55, 55, 53, 56, 48, 56] = (-9223372036854775808 : Int).natAbs := by kernel_rfl
  rw [e] at h
  rw [h]
  rfl
def dmu (n : Int) : Nat := if n < 0 then n.natAbs + 1 else n.toNat
theorem dec_neg {n : Int} (h : n < 0) : (⟨#[45]⟩ : ByteArray) ++ decB (-n) = decB n := by
  apply bl_inj
  rw [bl_app, bl_dec, bl_dec, Lib.itoa, Lib.itoa, if_pos h, if_neg (by omega), show (-n).toNat = n.natAbs by omega]
  rfl
theorem dec_one {n : Int} (h0 : ¬ n < 0) (h : n < 10) : bStr [48 + n] = decB n := by
  apply bl_inj
  rw [bl_dec, Lib.itoa, if_neg h0, Lib.decDigits_one (by omega)]
  show [UInt8.ofNat (48 + n).toNat] = _
  rw [show (48 + n).toNat = 48 + n.toNat by omega]
theorem dec_more {n : Int} (h0 : ¬ n < 0) (h : ¬ n < 10) : decB (n / 10) ++ bStr [48 + n % 10] = decB n := by
  apply bl_inj
  rw [bl_app, bl_dec, bl_dec, Lib.itoa, Lib.itoa, if_neg h0, if_neg (by omega)]
  show _ ++ [UInt8.ofNat (48 + n % 10).toNat] = _
  rw [show (48 + n % 10).toNat = 48 + n.toNat % 10 by omega, show (n / 10).toNat = n.toNat / 10 by omega]
  conv => rhs; rw [Lib.decDigits, dif_neg (show ¬ n.toNat < 10 by omega)]
theorem F32_is {Z : prodL L32 → Prop} {n : Int} {K : Kn} (hn : intP n) (hZ : ∀ m, intP m → dmu m < dmu n → Z (m, ())) (h : K (.str (decB n)) []) : F32 Z (n, ()) K := by
  have hn' : -9223372036854775808 ≤ n ∧ n ≤ 9223372036854775807 := hn
  unfold F32
  dsimp only [prodL, Lf.ty]
  rw [bif_dec]
  by_cases h0 : n < 0
  · rw [if_pos h0, bif_dec]
    by_cases h1 : n < -9223372036854775807
    · rw [if_pos h1]
      obtain rfl : n = -9223372036854775808 := by omega
      rw [dec_min] at h
      exact h
    · rw [if_neg h1, wrap64 (n := 0 - n) (by omega) (by omega), show 0 - n = -n by omega]
      have hm : intP (-n) := (⟨by omega, by omega⟩ : -9223372036854775808 ≤ -n ∧ -n ≤ 9223372036854775807)
      have hs := decB_size hm
      refine ⟨hZ _ hm (by unfold dmu; rw [if_pos h0, if_neg (by omega)]; omega), ?_, ?_⟩
      · show (1 + (decB (-n)).size) * 1 ≤ 140737488355328
        omega
      · rw [dec_neg h0]; exact h
  · rw [if_neg h0, bif_dec]
    by_cases h1 : n < 10
    · rw [if_pos h1, wrap64 (n := 48 + n) (by omega) (by omega), show IntKind.u8.wrap (48 + n) = 48 + n by (simp [IntKind.wrap, IntKind.bits, IntKind.signed]; omega), dec_one h0 h1]
      exact h
    · rw [if_neg h1]
      have e1 : Int.tdiv n 10 = n / 10 := Int.tdiv_eq_ediv_of_nonneg (by omega)
      have e2 : Int.tmod n 10 = n % 10 := Int.tmod_eq_emod_of_nonneg (by omega)
      rw [e1, e2, wrap64 (n := n / 10) (by omega) (by omega), wrap64 (n := 48 + n % 10) (by omega) (by omega), show IntKind.u8.wrap (48 + n % 10) = 48 + n % 10 by (simp [IntKind.wrap, IntKind.bits, IntKind.signed]; omega)]
      have hm : intP (n / 10) := (⟨by omega, by omega⟩ : -9223372036854775808 ≤ n / 10 ∧ n / 10 ≤ 9223372036854775807)
      have hs := decB_size hm
      refine ⟨by decide, hZ _ hm (by unfold dmu; rw [if_neg h0, if_neg (by omega)]; omega), by decide, ?_, ?_⟩
      · show ((decB (n / 10)).size + 1) * 1 ≤ 140737488355328
        omega
      · rw [dec_more h0 h1]; exact h
def sp32 : Sp := spz32 fun g => intP g.1
theorem sp32_all : ∀ n, (spz32 fun g => intP g.1 ∧ dmu g.1 < n).Ok Tryd.prog 32 true
  | 0 => ⟨fun _ _ _ h _ => absurd h.2 (Nat.not_lt_zero _), fun _ _ _ => rfl, fun _ => rfl, fun _ _ => ⟨rfl, rfl⟩⟩
  | n + 1 => ⟨by
      rintro ⟨k, ⟨⟩⟩ K X ⟨q1, q2⟩ h
      have q2 : dmu k < n + 1 := q2
      exact F32_ok _ (sp32_all n) _ _ X (F32_is q1 (fun m h1 h2 => ⟨h1, (by omega : dmu m < n)⟩) h), fun _ _ _ => rfl, fun _ => rfl, fun _ _ => ⟨rfl, rfl⟩⟩
theorem sp32_ok : sp32.Ok Tryd.prog 32 true :=
  ⟨fun g K X hp h => (sp32_all (dmu g.1 + 1)).calls g K X ⟨hp, Nat.lt_succ_self _⟩ h, fun _ _ _ => rfl, fun _ => rfl, fun _ _ => ⟨rfl, rfl⟩⟩
end Go.Proofs.YtpbkhdeehlikfaaDoor
