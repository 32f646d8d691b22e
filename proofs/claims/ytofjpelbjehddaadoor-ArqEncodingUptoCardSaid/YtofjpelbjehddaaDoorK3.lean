/-
  Arq codec: Decode, of both.
-/
import Derived.Test.YtofjpelbjehddaaDoorKC
namespace Go.Proofs.YtofjpelbjehddaaDoor
set_option linter.unusedVariables false
set_option linter.unusedSimpArgs false
set_option linter.unusedSectionVars false
open Go.RowKit
def z12 : Frm × Int := (⟨false, 0, ⟨#[]⟩⟩, 12)
def frmOf (a b c : Sx) : Frm := ⟨decide (a.atom = (⟨#[97, 99, 107]⟩ : ByteArray)), (nmG b).1, c.atom⟩
def kD2 (s : ByteArray) : List Sx → Frm × Int
  | [a, b, c] => if (nmG b).2 = 0 ∧ (kEnc (frmOf a b c)).2 = 0 ∧ (kEnc (frmOf a b c)).1 = s then (frmOf a b c, 0) else z12
  | _ => z12
def kDec (s : ByteArray) : Frm × Int := if (dcT s).2 = 0 ∧ (dcT s).1.list.length = 3 then kD2 s (dcT s).1.list else z12
theorem dcT_bkK {s : ByteArray} (hp : s.size ≤ 1000000) : bkS (dcT s).1 ≤ 5000000 := by
  have h := rdT_bk s
  have h0 : bkS sx0 ≤ 5000000 := by decide
  unfold dcT
  split
  · split
    · dsimp only; omega
    · exact h0
  · exact h0
theorem three {α : Type} : ∀ {l : List α}, l.length = 3 → ∃ a b c, l = [a, b, c]
  | [a, b, c], _ => ⟨a, b, c, rfl⟩
def resK (d : Frm × Int) : T := .tu [.ag [.bool d.1.ack, .int .i64 d.1.number, .str d.1.data], .int .i64 d.2]
theorem F8_is {s : ByteArray} {K : Kn} (hp : s.size ≤ 1000000) (h : K (resK (kDec s)) []) : F8 (s, ()) K := by
  have hk := dcT_bkK hp
  refine ⟨(by omega : s.size ≤ 2147483648), ?_⟩
  unfold kDec at h
  dsimp only
  rw [bif_ndec]
  generalize dcT s = d at h hk ⊢
  obtain ⟨⟨il, at', l⟩, e⟩ := d
  dsimp only at h hk ⊢
  by_cases h0 : e = 0
  · rw [if_pos h0]
    by_cases hl : l.length = 3
    · rw [if_pos ⟨h0, hl⟩] at h
      obtain ⟨a, b, c, rfl⟩ := three hl
      rw [decide_eq_true (show (([a, b, c].length : Nat) : Int) = 3 from rfl), Bool.not_true]
      unfold F8_J2
      rw [cond_false]
      have hb : bkS b ≤ lim := by
        simp only [bkS, bkSs] at hk
        rw [lim_eq]; omega
      simp only [kD2] at h
      refine At_of (n := 1) (Nat.lt_of_sub_eq_succ rfl) ⟨(by show bkS ⟨b.isList, b.atom, b.list⟩ ≤ lim; rw [Sx.eta]; exact hb), At_of (n := 0) (Nat.lt_of_sub_eq_succ rfl) (At_of (n := 2) (Nat.lt_of_sub_eq_succ rfl) ⟨trivial, ?_⟩)⟩
      dsimp only [List.getElem_cons_zero, List.getElem_cons_succ]
      simp only [Sx.eta]
      rw [bif_ndec]
      change (if (nmG b).2 = 0 then bif !decide ((kEnc (frmOf a b c)).2 = 0) then F8_J7 K true false 0 _ (frmOf a b c).ack (frmOf a b c).number (frmOf a b c).data else F8_J7 K (!decide ((kEnc (frmOf a b c)).1 = s)) false 0 _ (frmOf a b c).ack (frmOf a b c).number (frmOf a b c).data else F8_J7 K true false 0 _ (frmOf a b c).ack (frmOf a b c).number (frmOf a b c).data)
      generalize frmOf a b c = f at h ⊢
      rw [bif_ndec]
      unfold F8_J7
      by_cases h1 : (nmG b).2 = 0
      · rw [if_pos h1]
        by_cases h2 : (kEnc f).2 = 0
        · rw [if_pos h2]
          by_cases h3 : (kEnc f).1 = s
          · rw [if_pos ⟨h1, h2, h3⟩] at h
            rw [decide_eq_true h3, Bool.not_true, cond_false]
            exact h
          · rw [if_neg (fun q => h3 q.2.2)] at h
            rw [decide_eq_false h3, Bool.not_false, cond_true]
            exact h
        · rw [if_neg (fun q => h2 q.2.1)] at h
          rw [if_neg h2, cond_true]
          exact h
      · rw [if_neg (fun q => h1 q.1)] at h
        rw [if_neg h1, cond_true]
        exact h
    · rw [if_neg (fun q => hl q.2)] at h
      rw [decide_eq_false (by omega), Bool.not_false]
      unfold F8_J2
      rw [cond_true]
      exact h
  · rw [if_neg (fun q => h0 q.1)] at h
    rw [if_neg h0]
    unfold F8_J2
    rw [cond_true]
    exact h
theorem F9_is {s : ByteArray} {K : Kn} (hp : s.size ≤ 1000000) (h : K (resK (kDec s)) []) : F9 (s, ()) K := by
  have h8 := F8_is hp h
  have e : ∀ x : Sx, nmN x = nmG x := fun x => (nm_eq x).symm
  have hJ : ∀ t l, F8_J2 K s t false 0 ⟨#[]⟩ (dcT s).1.isList (dcT s).1.atom l → F9_J2 K s t false 0 ⟨#[]⟩ (dcT s).1.isList (dcT s).1.atom l := fun t l q => by
    unfold F8_J2 at q
    unfold F9_J2
    cases t with
    | true => exact q
    | false =>
      simp only [e]
      exact q
  obtain ⟨q1, q2⟩ := h8
  refine ⟨q1, ?_⟩
  dsimp only at q2 ⊢
  rw [bif_ndec] at q2 ⊢
  split at q2
  · rename_i h0; rw [if_pos h0]; exact hJ _ _ q2
  · rename_i h0; rw [if_neg h0]; exact hJ _ _ q2
def sp8 : Sp := ⟨S8, L8, fun g => g.1.size ≤ 1000000, fun g => resK (kDec g.1), fun _ => none⟩
theorem sp8_ok : sp8.Ok Tryd.prog 8 true :=
  ⟨fun g K X hp h => F8_ok g K X (F8_is (s := g.1) hp h), fun _ _ _ => rfl, fun _ => rfl, fun _ _ => ⟨rfl, rfl⟩⟩
def sp9 : Sp := ⟨S9, L9, fun g => g.1.size ≤ 1000000, fun g => resK (kDec g.1), fun _ => none⟩
theorem sp9_ok : sp9.Ok Tryd.prog 9 true :=
  ⟨fun g K X hp h => F9_ok g K X (F9_is (s := g.1) hp h), fun _ _ _ => rfl, fun _ => rfl, fun _ _ => ⟨rfl, rfl⟩⟩
end Go.Proofs.YtofjpelbjehddaaDoor
