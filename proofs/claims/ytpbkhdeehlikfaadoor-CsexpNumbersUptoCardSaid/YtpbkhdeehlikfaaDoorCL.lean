/-
  Csexp: Read, as a contract; what the checks yield.
-/
import Derived.Test.YtpbkhdeehlikfaaDoorCK
import Derived.Test.YtpbkhdeehlikfaaDoorCD
namespace Go.Proofs.YtpbkhdeehlikfaaDoor
set_option linter.unusedVariables false
set_option linter.unusedSimpArgs false
set_option linter.unusedSectionVars false
open Go.RowKit

def rdT (s : ByteArray) : Sx × Int × Int := match rdS 12 0 (bl s) with
  | .ok a => (a.1, (s.size : Int) - (a.2.2.length : Int), 0)
  | .err e => (⟨false, ⟨#[]⟩, []⟩, 0, e)
def topP (s : ByteArray) : Prop := s.size ≤ 2147483648
def sp12 : Sp := ⟨[.leaf], [.str], fun g => topP g.1, fun g => .tu [.ag [.bool (rdT g.1).1.isList, .str (rdT g.1).1.atom, .sl false .sexp (rdT g.1).1.list], .int .i64 (rdT g.1).2.1, .int .i64 (rdT g.1).2.2], fun _ => none⟩
theorem wkK_nil3 {K : Kn} {b : Bool} {a : ByteArray} {v u : T} {s : St} (h : K (.tu [.ag [.bool b, .str a, .sl false .sexp []], v, u]) s) : wkK K (.tu [.ag [.bool b, .str a, .nil], v, u]) s :=
  ⟨_, Weak.tu (WeakL.cons weak_nil (WeakL.cons (Weak.refl _) (WeakL.cons (Weak.refl _) WeakL.nil))), h⟩
theorem sp12_ok : sp12.Ok Tryd.prog 12 false :=
  ⟨by
    rintro ⟨s, ⟨⟩⟩ K X q1 h
    have q1 : s.size ≤ 2147483648 := q1
    have h : K (.tu [.ag [.bool (rdT s).1.isList, .str (rdT s).1.atom, .sl false .sexp (rdT s).1.list], .int .i64 (rdT s).2.1, .int .i64 (rdT s).2.2]) [] := h
    refine FCalls.weak (F12_ok s _ X ⟨⟨Int.le_refl 1, (by omega : (1 : Int) ≤ 13)⟩, ⟨Int.le_refl 0, Int.natCast_nonneg _, (by unfold lim; omega : s.size ≤ 2 * lim)⟩, Int.le_refl 0, (by omega : (0 : Int) ≤ 20000)⟩ ?_)
    unfold rdT at h
    cases hr : rdS 12 0 (bl s) with
    | ok a => rw [hr] at h; exact wkK_of h
    | err e => rw [hr] at h; exact wkK_nil3 h, fun _ _ _ => rfl, fun _ => rfl, fun h => (by cases h)⟩
/-- csexp.Check, quiltref01.Check. -/
def ckG (x : Sx) : Int := if (madd x 0 false 1).2 = true then 4 else shS x
def ckN (x : Sx) : Int := if 20000 < cnt x 20000 12 then 4 else ckR x
def sx0 : Sx := ⟨false, ⟨#[]⟩, []⟩
/-- Decode, of both. -/
def dcT (s : ByteArray) : Sx × Int := if (rdT s).2.2 = 0 then (if (rdT s).2.1 = (s.size : Int) then ((rdT s).1, 0) else (sx0, 12)) else (sx0, (rdT s).2.2)
/-- Int, of both. -/
def intB (n : Int) : Sx × Int := if n < -1099511627776 ∨ 1099511627776 < n then (sx0, 2) else (⟨false, decB n, []⟩, 0)
end Go.Proofs.YtpbkhdeehlikfaaDoor
