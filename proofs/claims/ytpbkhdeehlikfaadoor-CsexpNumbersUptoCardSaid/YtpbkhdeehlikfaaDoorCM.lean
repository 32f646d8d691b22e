/-
  Csexp: Read (the reference's), Decode, Int, the checks.
-/
import Derived.Test.YtpbkhdeehlikfaaDoorFG
import Derived.Test.YtpbkhdeehlikfaaDoorCP
namespace Go.Proofs.YtpbkhdeehlikfaaDoor
set_option linter.unusedVariables false
set_option linter.unusedSimpArgs false
set_option linter.unusedSectionVars false
open Go.RowKit

theorem bif_ndec {p : Prop} [Decidable p] {A B : Prop} : (bif !decide p then A else B) = if p then B else A := by
  by_cases h : p <;> simp [h]
theorem top_pre {s : ByteArray} (q1 : s.size ≤ 2147483648) : readPre (s, 0, 20000, 0, 12, ()) :=
  ⟨⟨Int.le_refl 0, Int.natCast_nonneg _, (by unfold lim; omega : s.size ≤ 2 * lim)⟩, ⟨(by omega : (0 : Int) ≤ 20000), Int.le_refl 20000⟩, rfl, (by omega : (0 : Int) ≤ 12), Int.le_refl 12⟩
def sp13 : Sp := ⟨S13, L13, fun g => topP g.1, sp12.res, fun _ => none⟩
theorem sp13_ok : sp13.Ok Tryd.prog 13 false :=
  ⟨by
    rintro ⟨s, ⟨⟩⟩ K X q1 h
    have h : K (.tu [.ag [.bool (rdT s).1.isList, .str (rdT s).1.atom, .sl false .sexp (rdT s).1.list], .int .i64 (rdT s).2.1, .int .i64 (rdT s).2.2]) [] := h
    refine FCalls.weak (F13_ok (s, ()) (wkK K) X ⟨top_pre q1, ?_⟩)
    show Res.go (rdS 12 0 (bl s)) _ _
    have hs := rdS_sound 12 0 (bl s) (by omega)
    unfold rdT at h
    cases hr : rdS 12 0 (bl s) with
    | ok a => rw [hr] at h; exact wkK_of h
    | err e =>
      rw [hr] at h
      intro y p m
      show F13_J7 _ _ _ _ _ _ _ _ _ _
      unfold F13_J7
      rw [bif_ndec, if_neg (by rcases hs.2 e hr with rfl | rfl <;> omega)]
      exact wkK_nil3 h, fun _ _ _ => rfl, fun _ => rfl, fun h => (by cases h)⟩
def sp14 : Sp := ⟨S14, L14, fun g => topP g.1, fun g => .tu [.ag [.bool (dcT g.1).1.isList, .str (dcT g.1).1.atom, .sl false .sexp (dcT g.1).1.list], .int .i64 (dcT g.1).2], fun _ => none⟩
theorem sp14_ok : sp14.Ok Tryd.prog 14 false :=
  ⟨by
    rintro ⟨s, ⟨⟩⟩ K X q1 h
    have h : K (.tu [.ag [.bool (dcT s).1.isList, .str (dcT s).1.atom, .sl false .sexp (dcT s).1.list], .int .i64 (dcT s).2]) [] := h
    refine FCalls.weak (F14_ok (s, ()) (wkK K) X ⟨q1, ?_⟩)
    unfold dcT at h
    rw [bif_ndec, bif_ndec]
    dsimp only at *
    split at h
    · rename_i h1
      rw [if_pos h1]
      split at h
      · rename_i h2; rw [if_pos h2]; exact wkK_of h
      · rename_i h2; rw [if_neg h2]; exact wkK_nil2 h
    · rename_i h1; rw [if_neg h1]; exact wkK_nil2 h, fun _ _ _ => rfl, fun _ => rfl, fun h => (by cases h)⟩
def sp18 : Sp := ⟨S18, L18, fun g => intP g.1, fun g => .tu [.ag [.bool (intB g.1).1.isList, .str (intB g.1).1.atom, .sl false .sexp (intB g.1).1.list], .int .i64 (intB g.1).2], fun _ => none⟩
theorem sp18_ok : sp18.Ok Tryd.prog 18 false :=
  ⟨by
    rintro ⟨n, ⟨⟩⟩ K X q1 h
    have h : K (.tu [.ag [.bool (intB n).1.isList, .str (intB n).1.atom, .sl false .sexp (intB n).1.list], .int .i64 (intB n).2]) [] := h
    refine FCalls.weak (F18_ok (n, ()) (wkK K) X ?_)
    unfold F18
    dsimp only
    rw [bif_dec]
    unfold intB at h
    by_cases h1 : n < -1099511627776
    · rw [if_pos (.inl h1)] at h
      rw [if_pos h1]
      exact wkK_nil2 h
    · rw [if_neg h1]
      unfold F18_J2
      rw [bif_dec]
      by_cases h2 : 1099511627776 < n
      · rw [if_pos (.inr h2)] at h
        rw [if_pos h2]
        exact wkK_nil2 h
      · rw [if_neg (fun e => e.elim h1 h2)] at h
        rw [if_neg h2]
        exact ⟨q1, wkK_nil2 h⟩, fun _ _ _ => rfl, fun _ => rfl, fun h => (by cases h)⟩
def bkP (g : prodL [.bool, .str, .sl .sexp]) : Prop := bkS ⟨g.1, g.2.1, g.2.2.1⟩ ≤ lim
def sp22 : Sp := ⟨S22, L22, bkP, fun g => .int .i64 (ckG ⟨g.1, g.2.1, g.2.2.1⟩), fun _ => none⟩
theorem sp22_ok : sp22.Ok Tryd.prog 22 true :=
  ⟨by
    rintro ⟨b, a, l, ⟨⟩⟩ K X q1 h
    have h : K (.int .i64 (ckG ⟨b, a, l⟩)) [] := h
    have q1 : bkS ⟨b, a, l⟩ ≤ lim := q1
    refine F22_ok (b, a, l, ()) K X ⟨?_, ?_⟩
    · have hn := nodes_bk ⟨b, a, l⟩
      have q2 := q1
      rw [lim_eq] at q2
      exact ⟨q1, ⟨Int.le_refl 0, (by omega : (0 : Int) + (nodesS ⟨b, a, l⟩ : Int) ≤ 1099511627776)⟩, (by omega : (0 : Int) ≤ 1), (by omega : (1 : Int) + (nodesS ⟨b, a, l⟩ : Int) ≤ 1099511627776)⟩
    · unfold ckG at h
      dsimp only
      cases hm : (madd ⟨b, a, l⟩ 0 false 1).2 with
      | true => rw [hm] at h; exact h
      | false => rw [hm] at h; exact ⟨q1, h⟩, fun _ _ _ => rfl, fun _ => rfl, fun _ _ => ⟨rfl, rfl⟩⟩
def sp25 : Sp := ⟨S25, L25, bkP, fun g => .int .i64 (ckN ⟨g.1, g.2.1, g.2.2.1⟩), fun _ => none⟩
theorem sp25_ok : sp25.Ok Tryd.prog 25 true :=
  ⟨by
    rintro ⟨b, a, l, ⟨⟩⟩ K X q1 h
    have h : K (.int .i64 (ckN ⟨b, a, l⟩)) [] := h
    have q1 : bkS ⟨b, a, l⟩ ≤ lim := q1
    refine F25_ok (b, a, l, ()) K X ⟨?_, ?_⟩
    · exact ⟨q1, ⟨(by omega : (0 : Int) ≤ 20000), (by omega : (20000 : Int) ≤ 1099511627776)⟩, (by omega : (0 : Int) ≤ 12), (by omega : (12 : Int) ≤ 1099511627776)⟩
    · unfold ckN at h
      dsimp only
      rw [bif_dec]
      split at h
      · rename_i h1; rw [if_pos h1]; exact h
      · rename_i h1; rw [if_neg h1]; exact ⟨q1, h⟩, fun _ _ _ => rfl, fun _ => rfl, fun _ _ => ⟨rfl, rfl⟩⟩
end Go.Proofs.YtpbkhdeehlikfaaDoor
