/-
  Proto: atoms, lists, numbers; words.
-/
import Derived.Test.YtoclmkbjgmgekaaDoorPA
namespace Go.Proofs.YtoclmkbjgmgekaaDoor
set_option linter.unusedVariables false
set_option linter.unusedSimpArgs false
set_option linter.unusedSectionVars false
open Go.RowKit
def sp47 : Sp := ⟨S47, L47, fun _ => True, fun _ => .ag (words8.map T.str), fun _ => none⟩
theorem sp47_ok : sp47.Ok Tryd.prog 47 false :=
  ⟨fun g K X _ h => F47_ok g K X h, fun _ _ _ => rfl, fun _ => rfl, fun _ _ => ⟨rfl, rfl⟩⟩
def sp76 : Sp := ⟨S76, L76, fun _ => True, fun g => .ag [.bool false, .str g.1, .nil], fun _ => none⟩
theorem sp76_ok : sp76.Ok Tryd.prog 76 false :=
  ⟨fun g K X _ h => F76_ok g K X h, fun _ _ _ => rfl, fun _ => rfl, fun _ _ => ⟨rfl, rfl⟩⟩
def sp46 : Sp := ⟨S46, L46, fun _ => True, fun g => .ag [.bool false, .str g.1, .nil], fun _ => none⟩
theorem sp46_ok : sp46.Ok Tryd.prog 46 false :=
  ⟨fun g K X _ h => F46_ok g K X h, fun _ _ _ => rfl, fun _ => rfl, fun _ _ => ⟨rfl, rfl⟩⟩
def sp80 : Sp := ⟨S80, L80, fun _ => True, fun g => .ag [.bool true, .str ⟨#[]⟩, .sl false .sexp g.1], fun _ => none⟩
theorem sp80_ok : sp80.Ok Tryd.prog 80 false :=
  ⟨fun g K X _ h => F80_ok g K X h, fun _ _ _ => rfl, fun _ => rfl, fun h => (by cases h)⟩
def sp51 : Sp := ⟨S51, L51, fun _ => True, fun g => .ag [.bool true, .str ⟨#[]⟩, .sl false .sexp g.1], fun _ => none⟩
theorem sp51_ok : sp51.Ok Tryd.prog 51 false :=
  ⟨fun g K X _ h => F51_ok g K X h, fun _ _ _ => rfl, fun _ => rfl, fun h => (by cases h)⟩
def sp82 : Sp := ⟨S82, L82, fun g => intP g.1, fun g => .ag [.bool (intB g.1).1.isList, .str (intB g.1).1.atom, .sl false .sexp (intB g.1).1.list], fun _ => none⟩
theorem sp82_ok : sp82.Ok Tryd.prog 82 false :=
  ⟨fun g K X hp h => F82_ok g K X ⟨hp, h⟩, fun _ _ _ => rfl, fun _ => rfl, fun h => (by cases h)⟩
def sp53 : Sp := ⟨S53, L53, fun g => intP g.1, fun g => .ag [.bool (intB g.1).1.isList, .str (intB g.1).1.atom, .sl false .sexp (intB g.1).1.list], fun _ => none⟩
theorem sp53_ok : sp53.Ok Tryd.prog 53 false :=
  ⟨fun g K X hp h => F53_ok g K X ⟨hp, h⟩, fun _ _ _ => rfl, fun _ => rfl, fun h => (by cases h)⟩
def sp98 : Sp := ⟨S98, L98, fun _ => True, fun g => .str (dstr (mkE .dig g)), fun _ => none⟩
theorem sp98_ok : sp98.Ok Tryd.prog 98 false :=
  ⟨fun g K X _ h => F98_ok g K X h, fun _ _ _ => rfl, fun _ => rfl, fun _ _ => ⟨rfl, rfl⟩⟩
theorem inB_if (n : Int) : inB n = bif decide (0 ≤ n) then decide (n ≤ 1099511627776) else false := by
  unfold inB
  by_cases h : 0 ≤ n <;> simp [h]
def sp72 : Sp := ⟨S72, L72, fun _ => True, fun g => .bool (inB g.1), fun _ => none⟩
theorem sp72_ok : sp72.Ok Tryd.prog 72 false :=
  ⟨fun g K X _ h => F72_ok g K X (by
    have h : K (.bool (inB g.1)) [] := h
    rw [inB_if] at h
    unfold F72
    cases e : decide (0 ≤ g.1) <;> simp only [e, cond_true, cond_false] at h ⊢ <;> exact h), fun _ _ _ => rfl, fun _ => rfl, fun _ _ => ⟨rfl, rfl⟩⟩
def sp43 : Sp := ⟨S43, L43, fun _ => True, fun g => .bool (inB g.1), fun _ => none⟩
theorem sp43_ok : sp43.Ok Tryd.prog 43 false :=
  ⟨fun g K X _ h => F43_ok g K X (by
    have h : K (.bool (inB g.1)) [] := h
    rw [inB_if] at h
    unfold F43
    cases e : decide (0 ≤ g.1) <;> simp only [e, cond_true, cond_false] at h ⊢ <;> exact h), fun _ _ _ => rfl, fun _ => rfl, fun _ _ => ⟨rfl, rfl⟩⟩
def sp42 : Sp := ⟨S42, L42, fun _ => True, fun g => .bool (unsigned (mkE .sgn g)), fun _ => none⟩
theorem sp42_ok : sp42.Ok Tryd.prog 42 true :=
  ⟨fun g K X _ h => F42_ok g K X (by
    obtain ⟨n, a, b, c, ⟨⟩⟩ := g
    have h : K (.bool (unsigned ⟨n, a, b, c⟩)) [] := h
    unfold F42
    unfold unsigned at h
    simp only [Int.natCast_eq_zero] at h ⊢
    cases e1 : decide (n = 0) <;> cases e2 : decide (a.length = 0) <;> cases e3 : decide (b.length = 0) <;> simp only [e1, e2, e3, cond_true, cond_false, Bool.false_and, Bool.true_and] at h ⊢ <;> exact h), fun _ _ _ => rfl, fun _ => rfl, fun _ _ => ⟨rfl, rfl⟩⟩
def sp34 : Sp := ⟨S34, L34, fun _ => True, fun _ => .mp 0, fun _ => some (.cells [.ments .ment wordsL])⟩
theorem sp34_ok : sp34.Ok Tryd.prog 34 false :=
  ⟨fun g K X _ h => F34_ok g K X h, fun _ _ _ => rfl, fun _ => rfl, fun h => (by cases h)⟩
end Go.Proofs.YtoclmkbjgmgekaaDoor
