/-
  Csexp: what its functions yield, in plain terms.
-/
import Derived.Test.YtpbkhdeehlikfaaDoorTD
import Derived.Lib.ItoaNum
import Derived.Lib.AtoiAll
namespace Go.Proofs.YtpbkhdeehlikfaaDoor
set_option linter.unusedVariables false
set_option linter.unusedSimpArgs false
set_option linter.unusedSectionVars false
open Go.RowKit

theorem Sx.eta (u : Sx) : (⟨u.isList, u.atom, u.list⟩ : Sx) = u := by cases u; rfl
mutual
def nodesS : Sx → Nat
  | ⟨_, _, l⟩ => 1 + nodesL l
def nodesL : List Sx → Nat
  | [] => 0
  | x :: l => nodesS x + nodesL l
end
mutual
/-- quiltref01.count. -/
def cnt : Sx → Int → Int → Int
  | ⟨b, _, l⟩, lim, d => if d < 1 ∨ lim < 1 then lim + 1 else if b = false then 1 else cnts l lim (d - 1) 1
def cnts : List Sx → Int → Int → Int → Int
  | [], _, _, n => n
  | x :: l, lim, d, n => if n ≤ lim then cnts l lim d (n + cnt x (lim - n) d) else n
end
mutual
/-- quiltref01.check. -/
def ckR : Sx → Int
  | ⟨b, a, l⟩ => if b = false then (if 0 < l.length then 1 else if 65536 < a.size then 4 else 0) else if a ≠ ⟨#[]⟩ then 1 else ckRs l
def ckRs : List Sx → Int
  | [] => 0
  | x :: l => if ckR x = 0 then ckRs l else ckR x
end
mutual
/-- csexp.shape. -/
def shS : Sx → Int
  | ⟨b, a, l⟩ => if (b = true ∧ a ≠ ⟨#[]⟩) ∨ (b = false ∧ 0 < l.length) then 1 else if 65536 < a.size then 4 else shSs l
def shSs : List Sx → Int
  | [] => 0
  | x :: l => if shS x = 0 then shSs l else shS x
end
mutual
/-- csexp.measure.add. -/
def madd : Sx → Int → Bool → Int → Int × Bool
  | ⟨b, _, l⟩, n, o, d => if b = false then (n + 1, o || decide (20000 < n + 1 ∨ 12 < d)) else madds l (n + 1) (o || decide (20000 < n + 1 ∨ 12 < d)) (d + 1)
def madds : List Sx → Int → Bool → Int → Int × Bool
  | [], n, o, _ => (n, o)
  | x :: l, n, o, d => if o = true then (n, o) else madds l (madd x n o d).1 (madd x n o d).2 d
end
mutual
/-- quiltref01.long. -/
def lgR : Sx → Bool
  | ⟨b, a, l⟩ => (b && lgRs l) || decide (200 < a.size) || decide (60 < l.length)
def lgRs : List Sx → Bool
  | [] => false
  | x :: l => lgR x || lgRs l
end
mutual
/-- quiltref01.Same. -/
def smR : Sx → Sx → Bool
  | ⟨b, a, l⟩, y => decide (b = y.isList) && decide (a = y.atom) && decide (l.length = y.list.length) && smRs l y.list
def smRs : List Sx → List Sx → Bool
  | [], _ => true
  | x :: l, [] => true
  | x :: l, y :: m => smR x y && smRs l m
end
def bl (s : ByteArray) : List UInt8 := s.data.toList
/-- The decimal form of a number. -/
def decB (n : Int) : ByteArray := ⟨(Lib.itoa n).toArray⟩
mutual
/-- The encoding. -/
def encB : Sx → ByteArray
  | ⟨b, a, l⟩ => if b = false then decB a.size ++ ⟨#[58]⟩ ++ a else encBs l ⟨#[40]⟩ ++ ⟨#[41]⟩
def encBs : List Sx → ByteArray → ByteArray
  | [], s => s
  | x :: l, s => encBs l (s ++ encB x)
end
/-- The length of an atom, and the colon. -/
def numR : Bool → Nat → List UInt8 → Res (Nat × List UInt8) Int
  | _, _, [] => .err 11
  | first, n, c :: l =>
    if c.toNat = 58 ∧ first = false then .ok (n, l)
    else if c.toNat < 48 ∨ 57 < c.toNat ∨ (first = false ∧ n = 0) then .err 12
    else if 65536 < 10 * n + (c.toNat - 48) then .err 12
    else numR false (10 * n + (c.toNat - 48)) l
/-- The rest of an atom, within its length; an atom. -/
def atomG (first : Bool) (n : Nat) (l : List UInt8) : Res (List UInt8 × List UInt8) Int :=
  match numR first n l with
  | .err e => .err e
  | .ok (n, r) => if r.length < n then .err 11 else .ok (r.take n, r.drop n)
def atomR (l : List UInt8) : Res (List UInt8 × List UInt8) Int := atomG true 0 l
/-- The elements of a list, and the closing parenthesis. -/
def rdL (f : Nat → List UInt8 → Res (Sx × Nat × List UInt8) Int) : Nat → Nat → List UInt8 → List Sx → Res (List Sx × Nat × List UInt8) Int
  | 0, _, _, _ => .err 0
  | _ + 1, _, [], _ => .err 11
  | m + 1, k, c :: l, acc => if c.toNat = 41 then .ok (acc, k, l) else match f k (c :: l) with
    | .err e => .err e
    | .ok (x, k', l') => rdL f m k' l' (acc ++ [x])
/-- An S-expression of a depth, after k nodes. -/
def rdS : Nat → Nat → List UInt8 → Res (Sx × Nat × List UInt8) Int
  | _, _, [] => .err 11
  | 0, _, _ :: _ => .err 12
  | d + 1, k, c :: l => if 20000 < k + 1 then .err 12 else if c.toNat ≠ 40 then match atomR (c :: l) with
      | .err e => .err e
      | .ok (a, r) => .ok (⟨false, ⟨a.toArray⟩, []⟩, k + 1, r)
    else match rdL (rdS d) (l.length + 1) (k + 1) l [] with
      | .err e => .err e
      | .ok (xs, k', r) => .ok (⟨true, ⟨#[]⟩, xs⟩, k', r)
/-- No value of a law is greater. -/
def lim : Nat := 1073741824
end Go.Proofs.YtpbkhdeehlikfaaDoor
