/-
  Proto: the laws ProtoEncode, ProtoDifferent, ProtoBatches.
-/
import Derived.Test.YtoclmkbjgmgekaaDoorPM
namespace Go.Proofs.YtoclmkbjgmgekaaDoor
set_option linter.unusedVariables false
set_option linter.unusedSimpArgs false
set_option linter.unusedSectionVars false
open Go.RowKit
abbrev KT : Kn := fun r _ => r = .bool true
theorem F6_is {m : Msg} (hm : msgP m) : F6 (m.kind, m.name, m.ids, m.ranges, m.patches, m.paths, m.code, m.text, m.sig.index, m.sig.revealed, m.sig.others, m.sig.path, ()) KT := by
  unfold F6
  refine ⟨hm.2, ?_⟩
  show bif greatB m then (sp11.pre () ∧ KT (.bool true) []) else (sp16.pre _ ∧ sp18.pre _ ∧ bif decide ((chk m).1 = (chk m).1) then bif decide ((chk m).2 = (chk m).2) then (sp19.pre _ ∧ sp20.pre _ ∧ bif decide ((chk m).2 = (chk m).2) then (sp11.pre () ∧ KT (.bool true) []) else _) else _ else _)
  cases h : greatB m with
  | true => exact ⟨trivial, rfl⟩
  | false =>
    simp only [decide_true, cond_true, cond_false]
    exact ⟨hm, hm, hm, hm, trivial, trivial⟩
theorem msgP_of {g : prodL (lvs .msg)} (hw : wfL (lvs .msg) g) (hb : bkL (lvs .msg) g ≤ 1048576) : msgP (mkE .msg g) :=
  ⟨wf_mk .msg g hw, Nat.le_trans (Nat.le_of_eq (bk_mk .msg g)) (Nat.le_trans hb (by omega))⟩
theorem protoEncode.calls (g : prodL L6) (hw : wfL L6 g) (hb : bkL L6 g ≤ 1048576) : FCalls Tryd.prog 6 (argsT S6 L6 g) [] (fun r _ => r = .bool true) fun _ _ => False :=
  F6_ok g KT _ (F6_is (m := mkE .msg g) (msgP_of hw hb))
theorem chk_ok {m : Msg} (h : (chk m).2 = 0) : ¬ (m.kind < 1 ∨ 7 < m.kind) ∧ foreign m = false ∧ numbered m = true ∧ ckG (sexpX m) = 0 ∧ (chk m).1 = encB (sexpX m) := by
  unfold chk at h ⊢
  by_cases h1 : m.kind < 1 ∨ 7 < m.kind
  · rw [if_pos h1] at h; cases h
  rw [if_neg h1] at h ⊢
  cases h2 : foreign m with
  | true => rw [h2, if_pos rfl] at h; cases h
  | false =>
    rw [h2, if_neg (by simp)] at h
    cases h3 : numbered m with
    | false => rw [h3, if_pos rfl] at h; cases h
    | true =>
      rw [h3, if_neg (by simp)] at h
      rw [if_neg (by simp), if_neg (by simp)]
      by_cases h4 : (enT (sexpX m)).2 ≠ 0 ∨ 65536 < (enT (sexpX m)).1.size
      · rw [if_pos h4] at h; cases h
      · rw [if_neg h4]
        have h5 : (enT (sexpX m)).2 = 0 := Decidable.byContradiction fun e => h4 (Or.inl e)
        have h6 : ckG (sexpX m) = 0 := Decidable.byContradiction fun e => by
          rw [en_no e] at h5; exact e h5
        refine ⟨h1, rfl, rfl, h6, ?_⟩
        rw [en_ok h6]
theorem chk_inj {a b : Msg} (ha : msgP a) (hb : msgP b) (h1 : (chk a).2 = 0) (h2 : (chk b).2 = 0) : decide ((chk a).1 = (chk b).1) = decide (a = b) := by
  rw [decide_eq_decide]
  refine ⟨fun e => ?_, fun e => by rw [e]⟩
  obtain ⟨a1, a2, a3, a4, a5⟩ := chk_ok h1
  obtain ⟨b1, b2, b3, b4, b5⟩ := chk_ok h2
  rw [a5, b5] at e
  have e1 := dcT_enc a4
  rw [e, dcT_enc b4] at e1
  exact sexpX_inj ha.1 hb.1 a1 b1 a2 b2 a3 b3 (Prod.mk.inj e1).1.symm
theorem F4_J2_is {a b : Msg} {t : Bool} (ha : msgP a) (hb : msgP b) : F4_J2 KT t a.kind a.name a.ids a.ranges a.patches a.paths a.code a.text a.sig.index a.sig.revealed a.sig.others a.sig.path b.kind b.name b.ids b.ranges b.patches b.paths b.code b.text b.sig.index b.sig.revealed b.sig.others b.sig.path := by
  unfold F4_J2
  cases t with
  | true => exact ⟨trivial, rfl⟩
  | false =>
    show sp16.pre _ ∧ sp16.pre _ ∧ bif !decide ((chk a).2 = 0) then (sp11.pre () ∧ KT (.bool true) []) else bif !decide ((chk b).2 = 0) then (sp11.pre () ∧ KT (.bool true) []) else (sp17.pre _ ∧ bif decide (decide ((chk a).1 = (chk b).1) = decide (a = b)) then (sp11.pre () ∧ KT (.bool true) []) else KT (.bool false) [])
    refine ⟨ha, hb, ?_⟩
    by_cases h1 : (chk a).2 = 0
    · rw [decide_eq_true h1, Bool.not_true, cond_false]
      by_cases h2 : (chk b).2 = 0
      · rw [decide_eq_true h2, Bool.not_true, cond_false]
        rw [chk_inj ha hb h1 h2, decide_eq_true rfl, cond_true]
        exact ⟨ha.2, trivial, rfl⟩
      · rw [decide_eq_false h2, Bool.not_false, cond_true]
        exact ⟨trivial, rfl⟩
    · rw [decide_eq_false h1, Bool.not_false, cond_true]
      exact ⟨trivial, rfl⟩
theorem F4_is {a b : Msg} (ha : msgP a) (hb : msgP b) : F4 (a.kind, a.name, a.ids, a.ranges, a.patches, a.paths, a.code, a.text, a.sig.index, a.sig.revealed, a.sig.others, a.sig.path, b.kind, b.name, b.ids, b.ranges, b.patches, b.paths, b.code, b.text, b.sig.index, b.sig.revealed, b.sig.others, b.sig.path, ()) KT := by
  unfold F4
  refine ⟨ha.2, ?_⟩
  show bif greatB a then F4_J2 KT true a.kind a.name a.ids a.ranges a.patches a.paths a.code a.text a.sig.index a.sig.revealed a.sig.others a.sig.path b.kind b.name b.ids b.ranges b.patches b.paths b.code b.text b.sig.index b.sig.revealed b.sig.others b.sig.path else
    (sp15.pre _ ∧ F4_J2 KT (greatB b) a.kind a.name a.ids a.ranges a.patches a.paths a.code a.text a.sig.index a.sig.revealed a.sig.others a.sig.path b.kind b.name b.ids b.ranges b.patches b.paths b.code b.text b.sig.index b.sig.revealed b.sig.others b.sig.path)
  cases h : greatB a with
  | true => rw [cond_true]; exact F4_J2_is ha hb
  | false => rw [cond_false]; exact ⟨hb.2, F4_J2_is ha hb⟩
def fst12 (g : prodL L17) : prodL (lvs .msg) := (g.1, g.2.1, g.2.2.1, g.2.2.2.1, g.2.2.2.2.1, g.2.2.2.2.2.1, g.2.2.2.2.2.2.1, g.2.2.2.2.2.2.2.1, g.2.2.2.2.2.2.2.2.1, g.2.2.2.2.2.2.2.2.2.1, g.2.2.2.2.2.2.2.2.2.2.1, g.2.2.2.2.2.2.2.2.2.2.2.1, ())
def snd12 (g : prodL L17) : prodL (lvs .msg) := g.2.2.2.2.2.2.2.2.2.2.2.2
theorem two_bk (g : prodL L17) : bkL L17 g = bkL (lvs .msg) (fst12 g) + bkL (lvs .msg) (snd12 g) := by
  simp only [bkL, fst12, snd12]; omega
theorem protoDifferent.calls (g : prodL L4) (hw : wfL L4 g) (hb : bkL L4 g ≤ 1048576) : FCalls Tryd.prog 4 (argsT S4 L4 g) [] (fun r _ => r = .bool true) fun _ _ => False := by
  have e := two_bk g
  have e : bkL L4 g = bkL (lvs .msg) (fst12 g) + bkL (lvs .msg) (snd12 g) := e
  have w1 : wfL (lvs .msg) (fst12 g) := ⟨hw.1, hw.2.1, hw.2.2.1, hw.2.2.2.1, hw.2.2.2.2.1, hw.2.2.2.2.2.1, hw.2.2.2.2.2.2.1, hw.2.2.2.2.2.2.2.1, hw.2.2.2.2.2.2.2.2.1, hw.2.2.2.2.2.2.2.2.2.1, trivial⟩
  have w2 : wfL (lvs .msg) (snd12 g) := hw.2.2.2.2.2.2.2.2.2.2
  exact F4_ok g KT _ (F4_is (a := mkE .msg (fst12 g)) (b := mkE .msg (snd12 g)) (msgP_of w1 (by omega)) (msgP_of w2 (by omega)))
theorem small_of {l : List ByteArray} (h : greatS l = false) : smallS l := by
  unfold greatS at h
  simp only [Bool.or_eq_false_iff, decide_eq_false_iff_not] at h
  unfold smallS
  rw [sum_bk]
  omega
theorem batF_len (most : Int) : ∀ (n : Nat) (l : List ByteArray), (batF most n l).length ≤ n
  | 0, _ => Nat.le_refl 0
  | n + 1, l => by
    unfold batF
    split
    · exact Nat.zero_le _
    · have := batF_len most n (l.drop (takeN most 11 l)); simp only [List.length_cons]; omega
theorem batF_mem (most : Int) : ∀ (n : Nat) (l : List ByteArray), smallS l → ∀ m ∈ batF most n l, ∃ p, m = msg3 p ∧ smallS p
  | 0, _, _, m, h => by simp [batF] at h
  | n + 1, l, hs, m, h => by
    unfold batF at h
    split at h
    · cases h
    · rcases List.mem_cons.1 h with h | h
      · exact ⟨_, h, small_take _ hs⟩
      · exact batF_mem most n _ (small_drop _ hs) m h
theorem bat_small {l : List ByteArray} {most : Int} (hs : smallS l) : (batT l most).1.length ≤ 4000 ∧ ∀ m ∈ (batT l most).1, ∃ p, m = msg3 p ∧ smallS p := by
  unfold batT
  split
  · exact ⟨Nat.zero_le _, fun m h => by cases h⟩
  · split
    · exact ⟨Nat.zero_le _, fun m h => by cases h⟩
    · exact ⟨Nat.le_trans (batF_len _ _ _) (small_len hs), batF_mem _ _ _ hs⟩
theorem protoBatches.calls (g : prodL L3) (hw : wfL L3 g) (hb : bkL L3 g ≤ 1048576) : FCalls Tryd.prog 3 (argsT S3 L3 g) [] (fun r _ => r = .bool true) fun _ _ => False := by
  obtain ⟨l, most, ⟨⟩⟩ := g
  refine F3_ok _ KT _ ?_
  have hs : sumP l := by
    have e : (l.map (bk .str)).sum = (l.map bk_str).sum := rfl
    simp only [bkL, e] at hb
    unfold sumP
    omega
  unfold F3
  refine ⟨hs, ?_⟩
  show bif greatS l then _ else _
  cases h : greatS l with
  | true => exact ⟨trivial, rfl⟩
  | false =>
    have hq := small_of h
    have hm := bat_small (most := most) hq
    refine ⟨hq, hq, ⟨Nat.le_trans hm.1 (by omega), fun m hx => ?_⟩, ?_⟩
    · obtain ⟨p, rfl, hp⟩ := hm.2 m hx
      exact (msg3P hp).2
    · simp only [decide_true, cond_true]
      exact ⟨trivial, trivial⟩
end Go.Proofs.YtoclmkbjgmgekaaDoor
