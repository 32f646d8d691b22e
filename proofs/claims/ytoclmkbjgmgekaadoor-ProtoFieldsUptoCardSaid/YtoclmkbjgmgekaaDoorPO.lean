/-
  Proto: the law ProtoFields.
-/
import Derived.Test.YtoclmkbjgmgekaaDoorPN
namespace Go.Proofs.YtoclmkbjgmgekaaDoor
set_option linter.unusedVariables false
set_option linter.unusedSimpArgs false
set_option linter.unusedSectionVars false
open Go.RowKit
theorem chk_for {m : Msg} (hk : ¬ (m.kind < 1 ∨ 7 < m.kind)) (hf : foreign m = true) : decide ((chk m).2 = 1) = true := by
  unfold chk
  rw [if_neg hk, if_pos hf]; rfl
section
variable {m : Msg} (hk : ¬ (m.kind < 1 ∨ 7 < m.kind))
include hk
theorem e_patches (h : decide (m.kind = 3) = false) (x : ByteArray) : decide ((chk ⟨m.kind, m.name, m.ids, m.ranges, m.patches ++ [x], m.paths, m.code, m.text, ⟨m.sig.index, m.sig.revealed, m.sig.others, m.sig.path⟩⟩).2 = 1) = true :=
  chk_for hk (by rw [foreign_is]; simp only [h]; simp)
theorem e_paths (h : decide (m.kind = 7) = false) (x : ByteArray) : decide ((chk ⟨m.kind, m.name, m.ids, m.ranges, m.patches, m.paths ++ [x], m.code, m.text, ⟨m.sig.index, m.sig.revealed, m.sig.others, m.sig.path⟩⟩).2 = 1) = true :=
  chk_for hk (by rw [foreign_is]; simp only [h]; simp)
theorem e_text (h : decide (m.kind = 6) = false) : decide ((chk ⟨m.kind, m.name, m.ids, m.ranges, m.patches, m.paths, m.code, m.text ++ ⟨#[120]⟩, ⟨m.sig.index, m.sig.revealed, m.sig.others, m.sig.path⟩⟩).2 = 1) = true :=
  chk_for hk (by
    have : decide (m.text ++ ⟨#[120]⟩ = (⟨#[]⟩ : ByteArray)) = false := decide_eq_false fun e => by
      have := congrArg ByteArray.size e
      rw [ByteArray.size_append] at this
      have h1 : (⟨#[120]⟩ : ByteArray).size = 1 := rfl
      have h0 : (⟨#[]⟩ : ByteArray).size = 0 := rfl
      omega
    rw [foreign_is]; simp only [h, this]; simp)
theorem e_ids (h : decide (m.kind = 2) = false) (h5 : decide (m.kind = 5) = false) (x : Dig) : decide ((chk ⟨m.kind, m.name, m.ids ++ [x], m.ranges, m.patches, m.paths, m.code, m.text, ⟨m.sig.index, m.sig.revealed, m.sig.others, m.sig.path⟩⟩).2 = 1) = true :=
  chk_for hk (by rw [foreign_is]; simp only [h, h5]; simp)
theorem e_ranges (h : decide (m.kind = 1) = false) (x : Rng) : decide ((chk ⟨m.kind, m.name, m.ids, m.ranges ++ [x], m.patches, m.paths, m.code, m.text, ⟨m.sig.index, m.sig.revealed, m.sig.others, m.sig.path⟩⟩).2 = 1) = true :=
  chk_for hk (by rw [foreign_is]; simp only [h]; simp)
theorem e_sig (h : decide (m.kind = 5) = false) (x : Dig) : decide ((chk ⟨m.kind, m.name, m.ids, m.ranges, m.patches, m.paths, m.code, m.text, ⟨m.sig.index, m.sig.revealed, m.sig.others, m.sig.path ++ [x]⟩⟩).2 = 1) = true :=
  chk_for hk (by rw [foreign_is]; simp only [h, unsigned]; simp)
end
/-- A message that leaves room for one thing more. -/
def msgR (m : Msg) : Prop := wf_msg m ∧ bk_msg m ≤ 1048576
theorem app_mem {α : Type} {P : α → Prop} {l : List α} {x : α} (h : ∀ y ∈ l, P y) (hx : P x) : ∀ y ∈ l ++ [x], P y := fun y hy => by
  rcases List.mem_append.1 hy with h1 | h1
  · exact h y h1
  · rw [List.mem_singleton.1 h1]; exact hx
section
variable {m : Msg} (hm : msgR m)
include hm
theorem r_plain : msgP m := ⟨hm.1, Nat.le_trans hm.2 (by omega)⟩
theorem r_patches {x : ByteArray} (hx : x.size ≤ 1000) : msgP ⟨m.kind, m.name, m.ids, m.ranges, m.patches ++ [x], m.paths, m.code, m.text, ⟨m.sig.index, m.sig.revealed, m.sig.others, m.sig.path⟩⟩ := by
  obtain ⟨⟨h1, h2, h3, h4, h5, h6, h7, h8, h9, h10⟩, hb⟩ := hm
  refine ⟨⟨h1, h2, h3, app_mem h4 trivial, h5, h6, h7, h8, h9, h10⟩, ?_⟩
  simp only [bk_msg, List.map_append, List.sum_append, List.map_cons, List.map_nil, List.sum_cons, List.sum_nil, bk_str] at hb ⊢
  omega
theorem r_paths {x : ByteArray} (hx : x.size ≤ 1000) : msgP ⟨m.kind, m.name, m.ids, m.ranges, m.patches, m.paths ++ [x], m.code, m.text, ⟨m.sig.index, m.sig.revealed, m.sig.others, m.sig.path⟩⟩ := by
  obtain ⟨⟨h1, h2, h3, h4, h5, h6, h7, h8, h9, h10⟩, hb⟩ := hm
  refine ⟨⟨h1, h2, h3, h4, app_mem h5 trivial, h6, h7, h8, h9, h10⟩, ?_⟩
  simp only [bk_msg, List.map_append, List.sum_append, List.map_cons, List.map_nil, List.sum_cons, List.sum_nil, bk_str] at hb ⊢
  omega
theorem r_text : msgP ⟨m.kind, m.name, m.ids, m.ranges, m.patches, m.paths, m.code, m.text ++ ⟨#[120]⟩, ⟨m.sig.index, m.sig.revealed, m.sig.others, m.sig.path⟩⟩ := by
  obtain ⟨⟨h1, h2, h3, h4, h5, h6, h7, h8, h9, h10⟩, hb⟩ := hm
  refine ⟨⟨h1, h2, h3, h4, h5, h6, h7, h8, h9, h10⟩, ?_⟩
  have e1 : (⟨#[120]⟩ : ByteArray).size = 1 := rfl
  simp only [bk_msg, ByteArray.size_append, e1] at hb ⊢
  omega
theorem r_ids {x : Dig} (hx : wf_dig x) : msgP ⟨m.kind, m.name, m.ids ++ [x], m.ranges, m.patches, m.paths, m.code, m.text, ⟨m.sig.index, m.sig.revealed, m.sig.others, m.sig.path⟩⟩ := by
  obtain ⟨⟨h1, h2, h3, h4, h5, h6, h7, h8, h9, h10⟩, hb⟩ := hm
  refine ⟨⟨h1, app_mem h2 hx, h3, h4, h5, h6, h7, h8, h9, h10⟩, ?_⟩
  simp only [bk_msg, bk_digs, List.length_append, List.length_singleton] at hb ⊢
  omega
theorem r_ranges {x : Rng} (hx : wf_rng x) (hi : x.ids = []) : msgP ⟨m.kind, m.name, m.ids, m.ranges ++ [x], m.patches, m.paths, m.code, m.text, ⟨m.sig.index, m.sig.revealed, m.sig.others, m.sig.path⟩⟩ := by
  obtain ⟨⟨h1, h2, h3, h4, h5, h6, h7, h8, h9, h10⟩, hb⟩ := hm
  refine ⟨⟨h1, h2, app_mem h3 hx, h4, h5, h6, h7, h8, h9, h10⟩, ?_⟩
  have e : bk_rng x ≤ 1000 := by
    unfold bk_rng
    rw [hi]
    simp only [List.map_nil, List.sum_nil]
    omega
  simp only [bk_msg, List.map_append, List.sum_append, List.map_cons, List.map_nil, List.sum_cons, List.sum_nil] at hb ⊢
  omega
theorem r_sig {x : Dig} (hx : wf_dig x) : msgP ⟨m.kind, m.name, m.ids, m.ranges, m.patches, m.paths, m.code, m.text, ⟨m.sig.index, m.sig.revealed, m.sig.others, m.sig.path ++ [x]⟩⟩ := by
  obtain ⟨⟨h1, h2, h3, h4, h5, h6, h7, h8, h9, h10⟩, hb⟩ := hm
  refine ⟨⟨h1, h2, h3, h4, h5, h6, h7, h8, h9, app_mem h10 hx⟩, ?_⟩
  simp only [bk_msg, bk_digs, List.length_append, List.length_singleton] at hb ⊢
  omega
theorem r_eight : msgP ⟨8, m.name, m.ids, m.ranges, m.patches, m.paths, m.code, m.text, ⟨m.sig.index, m.sig.revealed, m.sig.others, m.sig.path⟩⟩ := by
  obtain ⟨⟨h1, h2, h3, h4, h5, h6, h7, h8, h9, h10⟩, hb⟩ := hm
  exact ⟨⟨by show IntKind.i64.min ≤ (8 : Int) ∧ (8 : Int) ≤ IntKind.i64.max; decide, h2, h3, h4, h5, h6, h7, h8, h9, h10⟩, Nat.le_trans hb (by omega)⟩
end
theorem F7_J6_is {m : Msg} (hm : msgR m) : F7_J6 KT false m.kind m.name m.ids m.ranges m.patches m.paths m.code m.text m.sig.index m.sig.revealed m.sig.others m.sig.path := by
  unfold F7_J6
  rw [cond_false]
  refine ⟨r_eight hm, ?_⟩
  have e8 : (chk ⟨8, m.name, m.ids, m.ranges, m.patches, m.paths, m.code, m.text, ⟨m.sig.index, m.sig.revealed, m.sig.others, m.sig.path⟩⟩).2 = 8 := by
    unfold chk
    rw [if_pos (Or.inr (by show (7 : Int) < 8; omega))]
  rw [decide_eq_true e8, cond_true]
  exact ⟨trivial, rfl⟩
theorem z_dig : wf_dig ⟨0, 0, 0, 0, 0, 0, 0, 0, 0, 0, 0, 0, 0, 0, 0, 0, 0, 0, 0, 0, 0, 0, 0, 0, 0, 0, 0, 0, 0, 0, 0, 0⟩ := by
  unfold wf_dig; simp [IntKind.min, IntKind.max, IntKind.signed, IntKind.bits]
theorem o_dig : wf_dig ⟨1, 0, 0, 0, 0, 0, 0, 0, 0, 0, 0, 0, 0, 0, 0, 0, 0, 0, 0, 0, 0, 0, 0, 0, 0, 0, 0, 0, 0, 0, 0, 0⟩ := by
  unfold wf_dig; simp [IntKind.min, IntKind.max, IntKind.signed, IntKind.bits]
theorem z_rng : wf_rng ⟨⟨0, 0, 0, 0, 0, 0, 0, 0, 0, 0, 0, 0, 0, 0, 0, 0, 0, 0, 0, 0, 0, 0, 0, 0, 0, 0, 0, 0, 0, 0, 0, 0⟩, ⟨0, 0, 0, 0, 0, 0, 0, 0, 0, 0, 0, 0, 0, 0, 0, 0, 0, 0, 0, 0, 0, 0, 0, 0, 0, 0, 0, 0, 0, 0, 0, 0⟩, false, 0, ⟨0, 0, 0, 0, 0, 0, 0, 0, 0, 0, 0, 0, 0, 0, 0, 0, 0, 0, 0, 0, 0, 0, 0, 0, 0, 0, 0, 0, 0, 0, 0, 0⟩, []⟩ := by
  unfold wf_rng; simp [IntKind.min, IntKind.max, IntKind.signed, IntKind.bits]
theorem F7_J4_is {m : Msg} (hk : ¬ (m.kind < 1 ∨ 7 < m.kind)) (hm : msgR m)
    {a1 : Int} {a2 : ByteArray} {a3 : List Dig} {a4 : List Rng} {a6 : List ByteArray} {a7 : Int} {a8 : ByteArray} {a9 : Int} {a10 a11 a12 : List Dig}
    {b1 : Int} {b2 : ByteArray} {b3 : List Dig} {b4 : List Rng} {b5 : List ByteArray} {b7 : Int} {b8 : ByteArray} {b9 : Int} {b10 b11 b12 : List Dig}
    {c1 : Int} {c2 : ByteArray} {c3 : List Dig} {c4 : List Rng} {c5 c6 : List ByteArray} {c7 : Int} {c8 : ByteArray} {c9 : Int} {c10 c11 c12 : List Dig} {a b : List ByteArray} :
    F7_J4 KT false m.kind m.name m.ids m.ranges m.patches m.paths m.code m.text m.sig.index m.sig.revealed m.sig.others m.sig.path a1 a2 a3 a4 a6 a7 a8 a9 a10 a11 a12 b1 b2 b3 b4 b5 b7 b8 b9 b10 b11 b12 c1 c2 c3 c4 c5 c6 c7 c8 c9 c10 c11 c12 a b := by
  obtain ⟨⟨⟨l1, l2, l3, l4⟩, l5, l6, l7⟩, _⟩ := bk_parts (m := m) (r_plain hm).2
  have hJ := F7_J6_is hm
  have q1 := r_ids hm o_dig
  have q2 := r_ranges hm z_rng rfl
  have q3 := r_sig hm z_dig
  unfold F7_J4
  rw [cond_false]
  refine ⟨by omega, by simp only [List.length_singleton]; omega, by omega, by simp only [List.length_singleton]; omega, by omega, by simp only [List.length_singleton]; omega, ?_⟩
  cases h2 : decide (m.kind = 2) <;> cases h5 : decide (m.kind = 5) <;> cases h1 : decide (m.kind = 1) <;>
    simp only [Bool.not_true, Bool.not_false, cond_true, cond_false, e_ids hk, e_ranges hk, e_sig hk, h2, h5, h1] <;>
    repeat (first | exact hJ | refine ⟨q1, ?_⟩ | refine ⟨q2, ?_⟩ | refine ⟨q3, ?_⟩)
theorem F7_J2_is {m : Msg} {other : ByteArray} {t : Bool} (hm : msgR m) (h : t = false → other.size ≤ 1000 ∧ ¬ (m.kind < 1 ∨ 7 < m.kind)) : F7_J2 KT other t m.kind m.name m.ids m.ranges m.patches m.paths m.code m.text m.sig.index m.sig.revealed m.sig.others m.sig.path := by
  unfold F7_J2
  cases t with
  | true => exact ⟨trivial, rfl⟩
  | false =>
    obtain ⟨ho, hk⟩ := h rfl
    obtain ⟨⟨⟨l1, l2, l3, l4⟩, l5, l6, l7⟩, _, _, _, n2, _⟩ := bk_parts (m := m) (r_plain hm).2
    have q1 := r_patches hm ho
    have q2 := r_paths hm ho
    have q3 := r_text hm
    rw [cond_false]
    refine ⟨by omega, by simp only [List.length_singleton]; omega, by omega, by simp only [List.length_singleton]; omega, by rw [show (⟨#[120]⟩ : ByteArray).size = 1 from rfl]; omega, ?_⟩
    cases h3 : decide (m.kind = 3) <;> cases h7 : decide (m.kind = 7) <;> cases h6 : decide (m.kind = 6) <;>
      simp only [Bool.not_true, Bool.not_false, cond_true, cond_false, e_patches hk, e_paths hk, e_text hk, h3, h7, h6] <;>
      repeat (first | exact F7_J4_is hk hm | refine ⟨q1, ?_⟩ | refine ⟨q2, ?_⟩ | refine ⟨q3, ?_⟩)
theorem F7_is {m : Msg} {other : ByteArray} (hm : msgR m) : F7 (m.kind, m.name, m.ids, m.ranges, m.patches, m.paths, m.code, m.text, m.sig.index, m.sig.revealed, m.sig.others, m.sig.path, other, ()) KT := by
  unfold F7
  refine ⟨(r_plain hm).2, ?_⟩
  show bif greatB m then F7_J2 KT other true m.kind m.name m.ids m.ranges m.patches m.paths m.code m.text m.sig.index m.sig.revealed m.sig.others m.sig.path else bif decide (100 < (other.size : Int)) then F7_J2 KT other true m.kind m.name m.ids m.ranges m.patches m.paths m.code m.text m.sig.index m.sig.revealed m.sig.others m.sig.path else
    (sp19.pre _ ∧ F7_J2 KT other (!decide ((chk m).2 = 0)) m.kind m.name m.ids m.ranges m.patches m.paths m.code m.text m.sig.index m.sig.revealed m.sig.others m.sig.path)
  cases h : greatB m with
  | true => rw [cond_true]; exact F7_J2_is hm fun e => by cases e
  | false =>
    rw [cond_false]
    by_cases c : 100 < (other.size : Int)
    · rw [decide_eq_true c, cond_true]; exact F7_J2_is hm fun e => by cases e
    · rw [decide_eq_false c, cond_false]
      refine ⟨r_plain hm, F7_J2_is hm fun e => ⟨by omega, ?_⟩⟩
      have : (chk m).2 = 0 := by simpa using e
      exact (chk_ok this).1
def fst12o (g : prodL L7) : prodL (lvs .msg) := (g.1, g.2.1, g.2.2.1, g.2.2.2.1, g.2.2.2.2.1, g.2.2.2.2.2.1, g.2.2.2.2.2.2.1, g.2.2.2.2.2.2.2.1, g.2.2.2.2.2.2.2.2.1, g.2.2.2.2.2.2.2.2.2.1, g.2.2.2.2.2.2.2.2.2.2.1, g.2.2.2.2.2.2.2.2.2.2.2.1, ())
theorem protoFields.calls (g : prodL L7) (hw : wfL L7 g) (hb : bkL L7 g ≤ 1048576) : FCalls Tryd.prog 7 (argsT S7 L7 g) [] (fun r _ => r = .bool true) fun _ _ => False := by
  have e : bkL (lvs .msg) (fst12o g) ≤ bkL L7 g := by
    simp only [bkL, fst12o]; omega
  have w1 : wfL (lvs .msg) (fst12o g) := ⟨hw.1, hw.2.1, hw.2.2.1, hw.2.2.2.1, hw.2.2.2.2.1, hw.2.2.2.2.2.1, hw.2.2.2.2.2.2.1, hw.2.2.2.2.2.2.2.1, hw.2.2.2.2.2.2.2.2.1, hw.2.2.2.2.2.2.2.2.2.1, trivial⟩
  exact F7_ok g KT _ (F7_is (m := mkE .msg (fst12o g)) (other := g.2.2.2.2.2.2.2.2.2.2.2.2.1) ⟨wf_mk .msg _ w1, Nat.le_trans (Nat.le_of_eq (bk_mk .msg (fst12o g))) (Nat.le_trans e hb)⟩)
end Go.Proofs.YtoclmkbjgmgekaaDoor
