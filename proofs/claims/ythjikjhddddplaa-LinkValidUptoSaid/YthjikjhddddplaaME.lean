/- The kinds of elements of this seat: their cells. -/
import Derived.Test.YthjikjhddddplaaMT
namespace Go.Proofs.Ythjikjhddddplaa
set_option linter.unusedVariables false
set_option linter.unusedSimpArgs false
def sz : El → Nat
  | .i64 => 1
  | .pkt => 2
  | .flt => 3
def enc : (e : El) → ty e → List T
  | .i64, n => [.int .i64 n]
  | .pkt, p => [.int .i64 p.to, .str p.data]
  | .flt, f => [.int .i64 f.pkt.to, .str f.pkt.data, .int .i64 f.due]
theorem enc_len (e : El) (x : ty e) : (enc e x).length = sz e := by cases e <;> rfl
theorem sz_pos (e : El) : 0 < sz e := by cases e <;> decide
theorem enc_pure (e : El) (x : ty e) : ∀ u ∈ enc e x, u.pure1 = true := by cases e <;> simp [enc, T.pure1]
def dec : (e : El) → List T → Option (ty e)
  | .i64, [c0] => gInt .i64 c0
  | .pkt, [c0, c1] => match gInt .i64 c0, gStr c1 with
    | some x0, some x1 => some ⟨x0, x1⟩
    | _, _ => none
  | .flt, [c0, c1, c2] => match gInt .i64 c0, gStr c1, gInt .i64 c2 with
    | some x0, some x1, some x2 => some ⟨⟨x0, x1⟩, x2⟩
    | _, _, _ => none
  | _, _ => none
theorem dec_wk (e : El) (cs : List T) (x : ty e) (h : dec e cs = some x) : cs.length = sz e ∧ ∀ (j : Nat) (u : T), (enc e x)[j]? = some u → ∃ c, cs[j]? = some c ∧ Wk c u := by
  cases e
  case i64 =>
    rcases cs with _ | ⟨c0, _ | ⟨c1, r⟩⟩ <;> simp only [dec, reduceCtorEq] at h
    refine ⟨rfl, fun j u hj => ?_⟩
    rcases j with _ | j <;> simp [enc] at hj
    subst hj; exact ⟨_, rfl, gInt_ok h⟩
  case pkt =>
    rcases cs with _ | ⟨c0, _ | ⟨c1, _ | ⟨c2, r⟩⟩⟩ <;> simp only [dec, reduceCtorEq] at h
    split at h
    · rename_i x0 x1 h0 h1
      injection h with h
      subst h
      refine ⟨rfl, fun j u hj => ?_⟩
      rcases j with _ | _ | j <;> simp [enc] at hj <;> subst hj
      · exact ⟨_, rfl, gInt_ok h0⟩
      · exact ⟨_, rfl, gStr_ok h1⟩
    · cases h
  case flt =>
    rcases cs with _ | ⟨c0, _ | ⟨c1, _ | ⟨c2, _ | ⟨c3, r⟩⟩⟩⟩ <;> simp only [dec, reduceCtorEq] at h
    split at h
    · rename_i x0 x1 x2 h0 h1 h2
      injection h with h
      subst h
      refine ⟨rfl, fun j u hj => ?_⟩
      rcases j with _ | _ | _ | j <;> simp [enc] at hj <;> subst hj
      · exact ⟨_, rfl, gInt_ok h0⟩
      · exact ⟨_, rfl, gStr_ok h1⟩
      · exact ⟨_, rfl, gInt_ok h2⟩
    · cases h
end Go.Proofs.Ythjikjhddddplaa
