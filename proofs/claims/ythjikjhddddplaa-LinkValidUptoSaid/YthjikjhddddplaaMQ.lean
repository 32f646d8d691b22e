/-
  The machine over typed values, 20: what the machine knows of a type, type by type. No program in sight.
-/
import Derived.Test.YthjikjhddddplaaMG
namespace Go.Proofs.Ythjikjhddddplaa
set_option linter.unusedVariables false
set_option linter.unusedSimpArgs false
open Go.RowKit

def leafEq : List Nat → List Value → List Value → Option Bool
  | [], [], [] => some true
  | 0 :: ks, .int k a :: r, .int k' b :: q => if k = k' then (leafEq ks r q).map (decide (a = b) && ·) else none
  | 1 :: ks, .bool a :: r, .bool b :: q => (leafEq ks r q).map (decide (a = b) && ·)
  | 2 :: ks, .string a :: r, .string b :: q => (leafEq ks r q).map (decide (a = b) && ·)
  | _, _, _ => none
theorem bytes_beq (x y : ByteArray) : (x == y) = decide (x = y) := by
  obtain ⟨x⟩ := x
  obtain ⟨y⟩ := y
  rw [Bool.eq_iff_iff, decide_eq_true_iff, ByteArray.mk.injEq]
  exact (beq_iff_eq (α := Array UInt8) (a := x) (b := y))
section
variable {P : Program} {t : TypeId}
theorem leafEq_of {g : G} : ∀ {ks : List Nat} {xs ys : List T} {vs us : List Value} {b : Bool}, eqCells ks xs ys = some b → xs.length = vs.length → ys.length = us.length → (∀ (i : Nat) (c : T) (x : Value), xs[i]? = some c → vs[i]? = some x → R g c x) → (∀ (i : Nat) (c : T) (x : Value), ys[i]? = some c → us[i]? = some x → R g c x) → leafEq ks vs us = some b := by
  intro ks
  induction ks with
  | nil =>
    intro xs ys vs us b h h1 h2 _ _
    cases xs <;> cases ys <;> simp [eqCells] at h
    cases vs <;> cases us <;> simp at h1 h2
    subst h
    rfl
  | cons k ks ih =>
    intro xs ys vs us b h h1 h2 h3 h4
    cases xs with
    | nil => unfold eqCells at h; (repeat' split at h) <;> simp_all
    | cons x xs =>
      cases ys with
      | nil => unfold eqCells at h; (repeat' split at h) <;> simp_all
      | cons y ys =>
        cases vs with
        | nil => simp at h1
        | cons v vs =>
          cases us with
          | nil => simp at h2
          | cons u us =>
            have r1 := h3 0 x v rfl rfl
            have r2 := h4 0 y u rfl rfl
            have hrec := fun b h => ih (xs := xs) (ys := ys) (vs := vs) (us := us) (b := b) h (by simpa using h1) (by simpa using h2) (fun i c x hc hx => h3 (i + 1) c x (by simpa using hc) (by simpa using hx)) (fun i c x hc hx => h4 (i + 1) c x (by simpa using hc) (by simpa using hx))
            unfold eqCells at h
            split at h
            · rename_i e _ _; cases e
            · rename_i ks' k1 a r k2 b' q e1 e2 e3
              cases e1; cases e2; cases e3
              cases r1; cases r2
              split at h
              · rename_i hk
                obtain ⟨c, hc, hb⟩ := Option.map_eq_some_iff.1 h
                simp only [leafEq, if_pos (of_decide_eq_true hk), hrec c hc, Option.map_some, hb]
              · cases h
            · rename_i ks' a r b' q e1 e2 e3
              cases e1; cases e2; cases e3
              cases r1; cases r2
              obtain ⟨c, hc, hb⟩ := Option.map_eq_some_iff.1 h
              simp only [leafEq, hrec c hc, Option.map_some, hb]
            · rename_i ks' a r b' q e1 e2 e3
              cases e1; cases e2; cases e3
              cases r1; cases r2
              obtain ⟨c, hc, hb⟩ := Option.map_eq_some_iff.1 h
              simp only [leafEq, hrec c hc, Option.map_some, hb]
            · cases h
theorem leaf0 {ks : List Nat} {vs us : List Value} {b : Bool} (h : leafEq (0 :: ks) vs us = some b) : ∃ k x r y q c, vs = .int k x :: r ∧ us = .int k y :: q ∧ leafEq ks r q = some c ∧ b = ((x == y) && c) := by
  cases vs with
  | nil => simp [leafEq] at h
  | cons v r =>
    cases us with
    | nil => cases v <;> simp [leafEq] at h
    | cons u q =>
      cases v <;> cases u <;> first | (simp [leafEq] at h; done) | skip
      simp only [leafEq] at h
      split at h
      · rename_i hk
        subst hk
        obtain ⟨c, hc, hb⟩ := Option.map_eq_some_iff.1 h
        exact ⟨_, _, _, _, _, c, rfl, rfl, hc, hb.symm⟩
      · cases h
theorem leaf1 {ks : List Nat} {vs us : List Value} {b : Bool} (h : leafEq (1 :: ks) vs us = some b) : ∃ x r y q c, vs = .bool x :: r ∧ us = .bool y :: q ∧ leafEq ks r q = some c ∧ b = ((x == y) && c) := by
  cases vs with
  | nil => simp [leafEq] at h
  | cons v r =>
    cases us with
    | nil => cases v <;> simp [leafEq] at h
    | cons u q =>
      cases v <;> cases u <;> first | (simp [leafEq] at h; done) | skip
      simp only [leafEq] at h
      obtain ⟨c, hc, hb⟩ := Option.map_eq_some_iff.1 h
      exact ⟨_, _, _, _, c, rfl, rfl, hc, hb.symm⟩
theorem leaf2 {ks : List Nat} {vs us : List Value} {b : Bool} (h : leafEq (2 :: ks) vs us = some b) : ∃ x r y q c, vs = .string x :: r ∧ us = .string y :: q ∧ leafEq ks r q = some c ∧ b = ((x == y) && c) := by
  cases vs with
  | nil => simp [leafEq] at h
  | cons v r =>
    cases us with
    | nil => cases v <;> simp [leafEq] at h
    | cons u q =>
      cases v <;> cases u <;> first | (simp [leafEq] at h; done) | skip
      simp only [leafEq] at h
      obtain ⟨c, hc, hb⟩ := Option.map_eq_some_iff.1 h
      refine ⟨_, _, _, _, c, rfl, rfl, hc, ?_⟩
      rw [← hb, bytes_beq]
theorem leafN {vs us : List Value} {b : Bool} (h : leafEq [] vs us = some b) : vs = [] ∧ us = [] ∧ b = true := by
  cases vs <;> cases us <;> simp [leafEq] at h
  exact ⟨rfl, rfl, h⟩
/-- A type of one cell. -/
theorem TIok.one {d : TypeDesc} {i : TypeInfo} {ti : TI} {z : T} (hu : P.underlying t = some d) (hi : P.info? t = some i) (ha : ti.agg = false) (ha' : aggDesc d = false) (hs : srtOk P d ti.srt) (h1 : i.size = ti.size) (h2 : i.bytes = ti.bytes) (hz : ti.zero = some [z])
    {x : Value} (h3 : i.zero = some x) (h4 : cellsOf (tval x) = some [z]) (h5 : ti.size = 1) (hel : ∀ e, ti.el = some e → sz e = ti.size ∧ 0 < ti.bytes) (he : ti.eqs = none) : TIok P t ti :=
  ⟨⟨d, hu, by rw [ha, ha'], hs⟩, ⟨i, hi, h1, h2, fun z' hz' => by rw [hz] at hz'; injection hz' with hz'; subst hz'; exact ⟨⟨x, h3, h4⟩, by rw [h5]; rfl⟩⟩, hel, fun ks hks => by rw [he] at hks; cases hks⟩
theorem TIok.none {d : TypeDesc} {i : TypeInfo} {ti : TI} (hu : P.underlying t = some d) (hi : P.info? t = some i) (ha : aggDesc d = ti.agg) (hs : srtOk P d ti.srt) (h1 : i.size = ti.size) (h2 : i.bytes = ti.bytes) (hz : ti.zero = Option.none)
    (hel : ∀ e, ti.el = some e → sz e = ti.size ∧ 0 < ti.bytes) (he : ti.eqs = Option.none) : TIok P t ti :=
  ⟨⟨d, hu, ha, hs⟩, ⟨i, hi, h1, h2, fun z' hz' => by rw [hz] at hz'; cases hz'⟩, hel, fun ks hks => by rw [he] at hks; cases hks⟩
theorem TIok.agg {d : TypeDesc} {i : TypeInfo} {ti : TI} {z : List T} (hu : P.underlying t = some d) (hi : P.info? t = some i) (ha : aggDesc d = ti.agg) (hs : srtOk P d ti.srt) (h1 : i.size = ti.size) (h2 : i.bytes = ti.bytes) (hz : ti.zero = some z)
    {x : Value} (h3 : i.zero = some x) (h4 : cellsOf (tval x) = some z) (h5 : z.length = ti.size) (hel : ∀ e, ti.el = some e → sz e = ti.size ∧ 0 < ti.bytes)
    (he : ∀ ks, ti.eqs = some ks → P.eqGuardType P.depth t = false ∧ aggDesc d = true ∧ ∀ vs us b, leafEq ks vs us = some b → eqV P 4 t vs us = some b) : TIok P t ti := by
  refine ⟨⟨d, hu, ha, hs⟩, ⟨i, hi, h1, h2, fun z' hz' => by rw [hz] at hz'; injection hz' with hz'; subst hz'; exact ⟨⟨x, h3, h4⟩, h5⟩⟩, hel, fun ks hks xs ys vs us g b hl hq hx hy => ?_⟩
  obtain ⟨k1, k2, k3⟩ := he ks hks
  refine ⟨?_, k1⟩
  cases hx with
  | ag _ _ a1 a2 _ =>
    cases hy with
    | ag _ _ b1 b2 _ =>
      have hv := k3 vs.toList us.toList b (leafEq_of hq (by simpa using a1) (by simpa using b1) (fun i c x hc hx => a2 i c x hc (by simpa using hx)) fun i c x hc hx => b2 i c x hc (by simpa using hx))
      exact eqV_sound 4 t _ _ b 10000 hv (by omega) _ _ (by unfold mkV; simp [hu, k2]) (by unfold mkV; simp [hu, k2])
end
end Go.Proofs.Ythjikjhddddplaa
