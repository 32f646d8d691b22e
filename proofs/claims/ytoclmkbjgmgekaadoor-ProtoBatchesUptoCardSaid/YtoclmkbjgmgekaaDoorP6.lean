/-
  Proto: Encode, Check.
-/
import Derived.Test.YtoclmkbjgmgekaaDoorPF
namespace Go.Proofs.YtoclmkbjgmgekaaDoor
set_option linter.unusedVariables false
set_option linter.unusedSimpArgs false
set_option linter.unusedSectionVars false
open Go.RowKit
theorem F18_J4_is {K : Kn} {s : ByteArray} {t : Bool} (h1 : t = true → K (.tu [.str ⟨#[]⟩, .int .i64 4]) []) (h2 : t = false → K (.tu [.str s, .int .i64 0]) []) : F18_J4 K s t := by
  unfold F18_J4
  cases t
  · exact h2 rfl
  · exact h1 rfl
theorem F18_J2_is {m : Msg} {t : Bool} {K : Kn} (hp : msgP m) (ht : t = decide (m.kind < 1 ∨ 7 < m.kind)) (h : K (.tu [.str (chk m).1, .int .i64 (chk m).2]) []) : F18_J2 K t m.kind m.name m.ids m.ranges m.patches m.paths m.code m.text m.sig.index m.sig.revealed m.sig.others m.sig.path := by
  obtain ⟨hl, _⟩ := msg_parts hp
  subst ht
  unfold F18_J2
  show bif decide (m.kind < 1 ∨ 7 < m.kind) then K (.tu [.str ⟨#[]⟩, .int .i64 8]) [] else (sp29.pre _ ∧ bif foreign m then K (.tu [.str ⟨#[]⟩, .int .i64 1]) [] else (sp30.pre _ ∧ bif !numbered m then K (.tu [.str ⟨#[]⟩, .int .i64 2]) [] else
    (sp32.pre _ ∧ sp31.pre _ ∧ bif !decide ((enT (sexpX m)).2 = 0) then F18_J4 K (enT (sexpX m)).1 true else F18_J4 K (enT (sexpX m)).1 (decide (65536 < ((enT (sexpX m)).1.size : Int))))))
  unfold chk at h
  by_cases hk : m.kind < 1 ∨ 7 < m.kind
  · rw [decide_eq_true hk, cond_true]
    rw [if_pos hk] at h
    exact h
  rw [decide_eq_false hk, cond_false]
  rw [if_neg hk] at h
  refine ⟨trivial, ?_⟩
  cases c1 : foreign m <;> simp only [c1, Bool.not_true, Bool.not_false, cond_true, cond_false, if_true, Bool.false_eq_true, if_false] at h ⊢
  case true => exact h
  refine ⟨hl, ?_⟩
  cases c2 : numbered m <;> simp only [c2, Bool.not_true, Bool.not_false, cond_true, cond_false, if_true, Bool.true_eq_false, if_false] at h ⊢
  · exact h
  refine ⟨⟨hp, hk⟩, bkP_sexp hp, ?_⟩
  by_cases c3 : (enT (sexpX m)).2 = 0
  · rw [decide_eq_true c3, Bool.not_true, cond_false]
    refine F18_J4_is (fun e => ?_) fun e => ?_
    · have := of_decide_eq_true e
      rw [if_pos (Or.inr (by omega))] at h
      exact h
    · have := of_decide_eq_false e
      rw [if_neg (by omega)] at h
      exact h
  · rw [decide_eq_false c3, Bool.not_false, cond_true]
    rw [if_pos (Or.inl c3)] at h
    exact F18_J4_is (fun _ => h) fun e => by cases e
theorem F18_is {m : Msg} {K : Kn} (hp : msgP m) (h : K (.tu [.str (chk m).1, .int .i64 (chk m).2]) []) : F18 (m.kind, m.name, m.ids, m.ranges, m.patches, m.paths, m.code, m.text, m.sig.index, m.sig.revealed, m.sig.others, m.sig.path, ()) K := by
  unfold F18
  show bif decide (m.kind < 1) then F18_J2 K true m.kind m.name m.ids m.ranges m.patches m.paths m.code m.text m.sig.index m.sig.revealed m.sig.others m.sig.path else F18_J2 K (decide (7 < m.kind)) m.kind m.name m.ids m.ranges m.patches m.paths m.code m.text m.sig.index m.sig.revealed m.sig.others m.sig.path
  by_cases hk : m.kind < 1
  · rw [decide_eq_true hk, cond_true]
    exact F18_J2_is hp (by rw [decide_eq_true]; exact Or.inl hk) h
  · rw [decide_eq_false hk, cond_false]
    refine F18_J2_is hp ?_ h
    rw [decide_eq_decide]; omega
def sp18 : Sp := ⟨S18, L18, fun g => msgP (mkE .msg g), fun g => .tu [.str (chk (mkE .msg g)).1, .int .i64 (chk (mkE .msg g)).2], fun _ => none⟩
theorem sp18_ok : sp18.Ok Tryd.prog 18 true :=
  ⟨fun g K X hp h => F18_ok g K X (F18_is (m := mkE .msg g) hp h), fun _ _ _ => rfl, fun _ => rfl, fun _ _ => ⟨rfl, rfl⟩⟩
def sp16 : Sp := ⟨S16, L16, fun g => msgP (mkE .msg g), fun g => .tu [.str (chk (mkE .msg g)).1, .int .i64 (chk (mkE .msg g)).2], fun _ => none⟩
theorem sp16_ok : sp16.Ok Tryd.prog 16 true :=
  ⟨fun g K X hp h => F16_ok g K X ⟨hp, h⟩, fun _ _ _ => rfl, fun _ => rfl, fun _ _ => ⟨rfl, rfl⟩⟩
def sp19 : Sp := ⟨S19, L19, fun g => msgP (mkE .msg g), fun g => .int .i64 (chk (mkE .msg g)).2, fun _ => none⟩
theorem sp19_ok : sp19.Ok Tryd.prog 19 true :=
  ⟨fun g K X hp h => F19_ok g K X ⟨hp, h⟩, fun _ _ _ => rfl, fun _ => rfl, fun _ _ => ⟨rfl, rfl⟩⟩
end Go.Proofs.YtoclmkbjgmgekaaDoor
