/-
  Arq codec: the laws ArqCodec and ArqEncoding.
-/
import Derived.Test.YtofjpelbjehddaaDoorKD
namespace Go.Proofs.YtofjpelbjehddaaDoor
set_option linter.unusedVariables false
set_option linter.unusedSimpArgs false
set_option linter.unusedSectionVars false
open Go.RowKit
theorem num_atom {n : Int} (h1 : 0 ≤ n) (h2 : n ≤ 1099511627776) : nmG ⟨false, decB n, []⟩ = (n, 0) := by
  have hs := decB_size (n := n) ⟨by omega, by omega⟩
  unfold nmG nmB
  rw [ck_atom (by omega), if_pos rfl, if_neg (by simp)]
  dsimp only
  rw [bl_dec, if_pos (can_itoa n), num_itoa (by omega)]
theorem dec13 {n : Int} (h1 : 0 ≤ n) (h2 : n ≤ 1099511627776) : (decB n).size ≤ 13 := by
  rw [← bl_len, bl_dec, Lib.itoa, if_neg (by omega)]
  exact dec_len 12 _ (by omega)
theorem atomL (a : ByteArray) : encL ⟨false, a, []⟩ = Lib.decDigits a.size ++ (58 :: bl a) := by
  simp [encL]
theorem rt {f : Frm} (h : (kEnc f).2 = 0) : kDec (kEnc f).1 = (f, 0) ∧ (kEnc f).1.size ≤ 65536 := by
  have h0 : frmErr f = 0 := by
    refine Decidable.byContradiction fun hn => ?_
    unfold kEnc at h
    rw [if_neg hn] at h
    exact hn h
  obtain ⟨⟨n1, n2⟩, n3⟩ := frm_ok h0
  have e1 : kEnc f = enT (kS f) := by unfold kEnc; rw [if_pos h0]
  have hc : ckG (kS f) = 0 := by
    refine Decidable.byContradiction fun hn => ?_
    rw [e1, en_no hn] at h
    exact hn h
  have e2 : kEnc f = (encB (kS f), 0) := by rw [e1, en_ok hc]
  have e3 : dcT (kEnc f).1 = (kS f, 0) := by rw [e2]; exact dcT_enc hc
  constructor
  · unfold kDec
    rw [e3]
    have eS : (kS f).list = [⟨false, wordB f.ack, []⟩, ⟨false, decB f.number, []⟩, ⟨false, f.data, []⟩] := by
      unfold kS; rw [int_ok h0]
    rw [eS, if_pos ⟨rfl, rfl⟩]
    have ef : frmOf ⟨false, wordB f.ack, []⟩ ⟨false, decB f.number, []⟩ ⟨false, f.data, []⟩ = f := by
      unfold frmOf
      rw [num_atom n1 n2]
      obtain ⟨a, n, d⟩ := f
      cases a
      · have : decide (wordB false = (⟨#[97, 99, 107]⟩ : ByteArray)) = false := by decide
        simp only [this]
      · have : decide (wordB true = (⟨#[97, 99, 107]⟩ : ByteArray)) = true := by decide
        simp only [this]
    simp only [kD2, ef]
    rw [num_atom n1 n2, if_pos ⟨rfl, h, trivial⟩]
  · rw [e2]
    dsimp only
    rw [← bl_len, encB_bl]
    unfold kS
    rw [int_ok h0]
    have w1 := word_size f.ack
    have d1 := dec13 n1 n2
    have l1 := dec_len 0 (wordB f.ack).size (by omega)
    have l2 := dec_len 1 (decB f.number).size (by omega)
    have l3 := dec_len 4 f.data.size (by omega)
    have b1 := bl_len (wordB f.ack)
    have b2 := bl_len (decB f.number)
    have b3 := bl_len f.data
    have eL : encL ⟨true, ⟨#[]⟩, [⟨false, wordB f.ack, []⟩, ⟨false, decB f.number, []⟩, ⟨false, f.data, []⟩]⟩ = 40 :: (encL ⟨false, wordB f.ack, []⟩ ++ (encL ⟨false, decB f.number, []⟩ ++ (encL ⟨false, f.data, []⟩ ++ [])) ++ [41]) := by
      conv => lhs; unfold encL
      simp [encLs]
    rw [eL]
    simp only [atomL, List.length_cons, List.length_append, List.length_nil]
    omega
theorem kDec_cases (s : ByteArray) : kDec s = z12 ∨ ∃ f, kDec s = (f, 0) ∧ (kEnc f).2 = 0 ∧ (kEnc f).1 = s := by
  unfold kDec
  split
  · rename_i h
    obtain ⟨a, b, c, e⟩ := three h.2
    rw [e]
    simp only [kD2]
    split
    · rename_i q; exact .inr ⟨_, rfl, q.2⟩
    · exact .inl rfl
  · exact .inl rfl
abbrev KT : Kn := fun r _ => r = .bool true
theorem arqCodec.calls (g : prodL L3) (hw : wfL L3 g) (hb : bkL L3 g ≤ 1048576) : FCalls Tryd.prog 3 (argsT S3 L3 g) [] (fun r _ => r = .bool true) fun _ _ => False := by
  obtain ⟨a, n, d, s, ⟨⟩⟩ := g
  refine F3_ok _ _ _ ?_
  have hJ : ∀ t, (t = false → s.size ≤ 300) → F3_J2 KT s t a n d := fun t ht => by
    unfold F3_J2
    cases t with
    | true => exact ⟨trivial, rfl⟩
    | false =>
      have hs := ht rfl
      refine ⟨trivial, trivial, (by show s.size ≤ 1000000; omega), (by show s.size ≤ 1000000; omega), ?_⟩
      simp only [decide_true, cond_true, Bool.and_true]
      exact ⟨trivial, trivial⟩
  unfold F3
  dsimp only
  rw [bif_dec]
  split
  · exact hJ true (fun h => by cases h)
  · exact hJ _ (fun h => by simp only [decide_eq_false_iff_not] at h; omega)
theorem F4_J11_is {s : ByteArray} (hs : s.size ≤ 300) : F4_J11 KT s := by
  unfold F4_J11
  refine ⟨(by show s.size ≤ 1000000; omega), ?_⟩
  rw [bif_ndec]
  rcases kDec_cases s with h | ⟨f, h, h1, h2⟩
  · rw [h, if_neg (by decide), decide_eq_true (show z12.2 = 12 from rfl), cond_true]
    have : (decide ((z12.1).ack = false) && (decide ((z12.1).number = 0) && (decide ((z12.1).data = (⟨#[]⟩ : ByteArray)) && true))) = true := by decide
    rw [this, cond_true]
    exact ⟨trivial, rfl⟩
  · rw [h, if_pos rfl]
    refine ⟨trivial, ?_⟩
    rw [decide_eq_true h1, cond_true, decide_eq_true h2, cond_true]
    exact ⟨trivial, rfl⟩
theorem F4_J12_is {s : ByteArray} (hs : s.size ≤ 300) (f : Frm) : F4_J12 KT s f.ack f.number f.data := by
  unfold F4_J12
  refine ⟨trivial, ?_⟩
  rw [bif_dec]
  split
  · rename_i h
    have h : (kEnc f).2 = 0 := h
    obtain ⟨r1, r2⟩ := rt h
    refine ⟨(by show (kEnc f).1.size ≤ 1000000; omega), ?_⟩
    change bif !decide ((kDec (kEnc f).1).2 = 0) then _ else bif !(decide ((kDec (kEnc f).1).1.ack = f.ack) && (decide ((kDec (kEnc f).1).1.number = f.number) && (decide ((kDec (kEnc f).1).1.data = f.data) && true))) then _ else F4_J9 KT s (decide (65536 < ((kEnc f).1.size : Int)))
    rw [r1]
    simp only [decide_true, Bool.and_true, Bool.not_true, cond_false]
    unfold F4_J9
    rw [decide_eq_false (by omega), cond_false]
    exact F4_J11_is hs
  · exact F4_J11_is hs
theorem bStr_size (l : List Int) : (bStr l).size = l.length := by
  show (bStr l).data.size = _
  simp [bStr]
theorem F4_L5_is {s : ByteArray} (hs : s.size ≤ 300) {a : Bool} {n : Int} {d : ByteArray} {b0 : List Int} {N : Nat} (hN : N ≤ 100000) (hb0 : b0.length = N) : F4_L5 KT (s, (N : Int), 0, a, n, d, b0, ()) := by
  unfold F4_L5
  refine LoopW.of (fun g => ∃ (i : Nat) (b : List Int), g = (s, (N : Int), (i : Int), a, n, d, b, ()) ∧ i ≤ N ∧ b.length = N) (fun g => N - g.2.2.1.toNat) ?_ ⟨0, b0, rfl, Nat.zero_le _, hb0⟩
  rintro _ ⟨i, b, rfl, hi, hb⟩ W hW
  unfold F4_B5
  dsimp only
  rw [bif_dec]
  by_cases h0 : (i : Int) < (N : Int)
  · rw [if_pos h0]
    have hlt : i < N := by omega
    refine ⟨by omega, by rw [Int.toNat_natCast]; omega, ?_⟩
    rw [Int.toNat_natCast]
    refine ⟨b[i], by simp [hb, hlt], ?_⟩
    rw [wrapS hlt (by omega)]
    exact hW _ ⟨i + 1, _, rfl, by omega, by rw [List.length_set]; exact hb⟩ (by show N - ((i + 1 : Nat) : Int).toNat < N - ((i : Nat) : Int).toNat; rw [Int.toNat_natCast, Int.toNat_natCast]; omega)
  · rw [if_neg h0]
    exact F4_J12_is hs ⟨a, n, bStr b⟩
theorem arqEncoding.calls (g : prodL L4) (hw : wfL L4 g) (hb : bkL L4 g ≤ 1048576) : FCalls Tryd.prog 4 (argsT S4 L4 g) [] (fun r _ => r = .bool true) fun _ _ => False := by
  obtain ⟨a, n, d, s, lg, ⟨⟩⟩ := g
  refine F4_ok _ _ _ ?_
  have hJ : ∀ t, (t = false → s.size ≤ 300) → F4_J2 KT s lg t a n d := fun t ht => by
    unfold F4_J2
    cases t with
    | true => exact ⟨trivial, rfl⟩
    | false =>
      have hs := ht rfl
      rw [cond_false]
      cases lg with
      | true =>
        rw [cond_true]
        refine ⟨⟨by omega, rfl⟩, (by show 65472 * 1 ≤ 140737488355328; omega), fun b hb => ?_⟩
        have hl : b.length ≤ 100000 := by rw [hb, List.length_replicate]; omega
        exact F4_L5_is hs hl rfl
      | false =>
        rw [cond_false]
        exact F4_J12_is hs ⟨a, n, d⟩
  unfold F4
  dsimp only
  rw [bif_dec]
  split
  · exact hJ true (fun h => by cases h)
  · exact hJ _ (fun h => by simp only [decide_eq_false_iff_not] at h; omega)
end Go.Proofs.YtofjpelbjehddaaDoor
