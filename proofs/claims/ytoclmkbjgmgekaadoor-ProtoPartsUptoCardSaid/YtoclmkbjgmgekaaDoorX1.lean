import Derived.Test.YtoclmkbjgmgekaaDoorTD
import Derived.Lib.ItoaNum
import Derived.Lib.AtoiAll
/-
  Csexp: what its functions yield, in plain terms.
-/
namespace Go.Proofs.YtoclmkbjgmgekaaDoor
set_option linter.unusedVariables false
set_option linter.unusedSimpArgs false
set_option linter.unusedSectionVars false
open Go.RowKit

theorem Sx.eta (u : Sx) : (⟨u.isList, u.atom, u.list⟩ : Sx) = u := by cases u; rfl
mutual
def nodesS : Sx → Nat
  | ⟨_, _, l⟩ => 1 + nodesL l
def nodesL : List Sx → Nat
  | [] => 0
  | x :: l => nodesS x + nodesL l
end
mutual
/-- quiltref01.count. -/
def cnt : Sx → Int → Int → Int
  | ⟨b, _, l⟩, lim, d => if d < 1 ∨ lim < 1 then lim + 1 else if b = false then 1 else cnts l lim (d - 1) 1
def cnts : List Sx → Int → Int → Int → Int
  | [], _, _, n => n
  | x :: l, lim, d, n => if n ≤ lim then cnts l lim d (n + cnt x (lim - n) d) else n
end
mutual
/-- quiltref01.check. -/
def ckR : Sx → Int
  | ⟨b, a, l⟩ => if b = false then (if 0 < l.length then 1 else if 65536 < a.size then 4 else 0) else if a ≠ ⟨#[]⟩ then 1 else ckRs l
def ckRs : List Sx → Int
  | [] => 0
  | x :: l => if ckR x = 0 then ckRs l else ckR x
end
mutual
/-- csexp.shape. -/
def shS : Sx → Int
  | ⟨b, a, l⟩ => if (b = true ∧ a ≠ ⟨#[]⟩) ∨ (b = false ∧ 0 < l.length) then 1 else if 65536 < a.size then 4 else shSs l
def shSs : List Sx → Int
  | [] => 0
  | x :: l => if shS x = 0 then shSs l else shS x
end
mutual
/-- csexp.measure.add. -/
def madd : Sx → Int → Bool → Int → Int × Bool
  | ⟨b, _, l⟩, n, o, d => if b = false then (n + 1, o || decide (20000 < n + 1 ∨ 12 < d)) else madds l (n + 1) (o || decide (20000 < n + 1 ∨ 12 < d)) (d + 1)
def madds : List Sx → Int → Bool → Int → Int × Bool
  | [], n, o, _ => (n, o)
  | x :: l, n, o, d => if o = true then (n, o) else madds l (madd x n o d).1 (madd x n o d).2 d
end
mutual
/-- quiltref01.long. -/
def lgR : Sx → Bool
  | ⟨b, a, l⟩ => (b && lgRs l) || decide (200 < a.size) || decide (60 < l.length)
def lgRs : List Sx → Bool
  | [] => false
  | x :: l => lgR x || lgRs l
end
mutual
/-- quiltref01.Same. -/
def smR : Sx → Sx → Bool
  | ⟨b, a, l⟩, y => decide (b = y.isList) && decide (a = y.atom) && decide (l.length = y.list.length) && smRs l y.list
def smRs : List Sx → List Sx → Bool
  | [], _ => true
  | x :: l, [] => true
  | x :: l, y :: m => smR x y && smRs l m
end
def bl (s : ByteArray) : List UInt8 := s.data.toList
/-- The decimal form of a number. -/
def decB (n : Int) : ByteArray := ⟨(Lib.itoa n).toArray⟩
mutual
/-- The encoding. -/
def encB : Sx → ByteArray
  | ⟨b, a, l⟩ => if b = false then decB a.size ++ ⟨#[58]⟩ ++ a else encBs l ⟨#[40]⟩ ++ ⟨#[41]⟩
def encBs : List Sx → ByteArray → ByteArray
  | [], s => s
  | x :: l, s => encBs l (s ++ encB x)
end
/-- The length of an atom, and the colon. -/
def numR : Bool → Nat → List UInt8 → Res (Nat × List UInt8) Int
  | _, _, [] => .err 11
  | first, n, c :: l =>
    if c.toNat = 58 ∧ first = false then .ok (n, l)
    else if c.toNat < 48 ∨ 57 < c.toNat ∨ (first = false ∧ n = 0) then .err 12
    else if 65536 < 10 * n + (c.toNat - 48) then .err 12
    else numR false (10 * n + (c.toNat - 48)) l
/-- The rest of an atom, within its length; an atom. -/
def atomG (first : Bool) (n : Nat) (l : List UInt8) : Res (List UInt8 × List UInt8) Int :=
  match numR first n l with
  | .err e => .err e
  | .ok (n, r) => if r.length < n then .err 11 else .ok (r.take n, r.drop n)
def atomR (l : List UInt8) : Res (List UInt8 × List UInt8) Int := atomG true 0 l
/-- The elements of a list, and the closing parenthesis. -/
def rdL (f : Nat → List UInt8 → Res (Sx × Nat × List UInt8) Int) : Nat → Nat → List UInt8 → List Sx → Res (List Sx × Nat × List UInt8) Int
  | 0, _, _, _ => .err 0
  | _ + 1, _, [], _ => .err 11
  | m + 1, k, c :: l, acc => if c.toNat = 41 then .ok (acc, k, l) else match f k (c :: l) with
    | .err e => .err e
    | .ok (x, k', l') => rdL f m k' l' (acc ++ [x])
/-- An S-expression of a depth, after k nodes. -/
def rdS : Nat → Nat → List UInt8 → Res (Sx × Nat × List UInt8) Int
  | _, _, [] => .err 11
  | 0, _, _ :: _ => .err 12
  | d + 1, k, c :: l => if 20000 < k + 1 then .err 12 else if c.toNat ≠ 40 then match atomR (c :: l) with
      | .err e => .err e
      | .ok (a, r) => .ok (⟨false, ⟨a.toArray⟩, []⟩, k + 1, r)
    else match rdL (rdS d) (l.length + 1) (k + 1) l [] with
      | .err e => .err e
      | .ok (xs, k', r) => .ok (⟨true, ⟨#[]⟩, xs⟩, k', r)
/-- No value of a law is greater. -/
def lim : Nat := 1073741824
end Go.Proofs.YtoclmkbjgmgekaaDoor

/-
  Csexp: what functions that call themselves and turn an object yield.
-/
namespace Go.Proofs.YtoclmkbjgmgekaaDoor
set_option linter.unusedVariables false
set_option linter.unusedSimpArgs false
set_option linter.unusedSectionVars false
open Go.RowKit

def addF (g : prodL [.bool, .str, .sl .sexp, .int .i64, .int .i64, .bool]) (K X : Kn) : Prop :=
  K (.tu []) [some (.cells [.int .i64 (madd ⟨g.1, g.2.1, g.2.2.1⟩ g.2.2.2.2.1 g.2.2.2.2.2.1 g.2.2.2.1).1, .bool (madd ⟨g.1, g.2.1, g.2.2.1⟩ g.2.2.2.2.1 g.2.2.2.2.2.1 g.2.2.2.1).2])]
end Go.Proofs.YtoclmkbjgmgekaaDoor

/- What functions come to: printed by exf.py. -/
namespace Go.Proofs.YtoclmkbjgmgekaaDoor
set_option linter.unusedVariables false
set_option linter.unusedSimpArgs false
set_option linter.unusedSectionVars false
open Go.RowKit
attribute [local irreducible] dfun dround
/-- quilt/quiltref01.count -/
def H83 : List (Nat × Hint) := [(7, ⟨[((3, []), none)], [(1, .leaf), (2, .leaf), (3, .pt 0 0), (7, .leaf), (8, .leaf)], [.cells [.leaf, .leaf, .leaf]], [.int .i64, .int .i64, .int .i64, .int .i64, .bool, .str, .sl .sexp]⟩)]
def J83 : List (Nat × Hint) := [(2, ⟨[((3, []), none)], [(1, .leaf), (2, .leaf), (3, .pt 0 0), (14, .leaf)], [.cells [.leaf, .leaf, .leaf]], [.int .i64, .int .i64, .bool, .bool, .str, .sl .sexp]⟩), (10, ⟨[], [(7, .leaf)], [], [.int .i64]⟩)]
abbrev S83 : List Sh := [.ag [.leaf, .leaf, .leaf], .leaf, .leaf]
abbrev L83 : List Lf := [.bool, .str, .sl .sexp, .int .i64, .int .i64]
def spz83 (Z : prodL L83 → Prop) : Sp := ⟨S83, L83, Z, fun g => .int .i64 (cnt ⟨g.1, g.2.1, g.2.2.1⟩ g.2.2.2.1 g.2.2.2.2.1), fun _ => none⟩
def F83_J7 (K : Kn) (n_6 : Int) : Prop :=
  K (.int .i64 n_6) []
def F83_B4 (K : Kn) (Z : prodL L83 → Prop) (W4 : prodL [.int .i64, .int .i64, .int .i64, .int .i64, .bool, .str, .sl .sexp] → Prop) (limit_3 : Int) (depth_3 : Int) (n_3 : Int) (i_3 : Int) (x1_3 : Bool) (x2_3 : ByteArray) (x3_3 : List Sx) : Prop :=
  bif decide (i_3 < (x3_3.length : Int)) then (
    bif decide (n_3 ≤ limit_3) then (
    At x3_3 i_3 fun u5 =>
  Z (u5.isList, u5.atom, u5.list, IntKind.i64.wrap (limit_3 - n_3), IntKind.i64.wrap (depth_3 - 1), ()) ∧
  W4 (limit_3, depth_3, IntKind.i64.wrap (n_3 + (cnt ⟨u5.isList, u5.atom, u5.list⟩ (IntKind.i64.wrap (limit_3 - n_3)) (IntKind.i64.wrap (depth_3 - 1)))), IntKind.i64.wrap (i_3 + 1), x1_3, x2_3, x3_3, ()))
  else (
    F83_J7 K n_3))
  else (
    F83_J7 K n_3)
def F83_L4 (K : Kn) (Z : prodL L83 → Prop) (g : prodL [.int .i64, .int .i64, .int .i64, .int .i64, .bool, .str, .sl .sexp]) : Prop :=
  LoopW (γ := prodL [.int .i64, .int .i64, .int .i64, .int .i64, .bool, .str, .sl .sexp]) (fun V y => F83_B4 K Z V y.1 y.2.1 y.2.2.1 y.2.2.2.1 y.2.2.2.2.1 y.2.2.2.2.2.1 y.2.2.2.2.2.2.1) g
def F83_J2 (K : Kn) (Z : prodL L83 → Prop) (limit_1 : Int) (depth_1 : Int) (t_1 : Bool) (x1_1 : Bool) (x2_1 : ByteArray) (x3_1 : List Sx) : Prop :=
  bif t_1 then (
    K (.int .i64 (IntKind.i64.wrap (limit_1 + 1))) [])
  else (
    bif !x1_1 then (
    K (.int .i64 1) [])
  else (
    F83_L4 K Z (limit_1, depth_1, 1, 0, x1_1, x2_1, x3_1, ())))
def F83 (Z : prodL L83 → Prop) (g : prodL L83) (K : Kn) : Prop :=
  bif decide (g.2.2.2.2.1 < 1) then (
    F83_J2 K Z g.2.2.2.1 g.2.2.2.2.1 true g.1 g.2.1 g.2.2.1)
  else (
    F83_J2 K Z g.2.2.2.1 g.2.2.2.2.1 (decide (g.2.2.2.1 < 1)) g.1 g.2.1 g.2.2.1)
theorem F83_eq (Z : prodL L83 → Prop) (g : prodL L83) (K X : Kn) : F83 Z g K = dfun D (gamX [] [(83, true, spz83 Z)]) (isRaw []) H83 J83 47 [.tmp 6] (codeOf Tryd.f83) (argsT S83 L83 g) [] (settle0 K) X := by kernel_rfl
theorem F83_ok (Z : prodL L83 → Prop) (hZ : (spz83 Z).Ok Tryd.prog 83 true) (g : prodL L83) (K X : Kn) (h : F83 Z g K) : FCalls Tryd.prog 83 (argsT S83 L83 g) [] K X :=
  FCalls.settle0 (dfun_sound (Γ := gamX [] [(83, true, spz83 Z)]) (mu := isRaw []) (H := H83) (J := J83) D_ok (gamX_ok (rs := []) (l := [(83, true, spz83 Z)]) (fun p hp => by cases hp) (by intro p hp; simp only [List.mem_cons, List.not_mem_nil, or_false] at hp; subst hp; exact hZ)) gamX_det rfl Tryd.func83 (c := codeOf Tryd.f83) rfl Tryd.ntmps83 (rs := [.tmp 6]) Tryd.results83 (by unfold enters; rw [Tryd.func83]; kernel_rfl) (Nat.le_of_ble_eq_true (by kernel_rfl)) (X := X) (c0 := 0) (Eq.mp (F83_eq Z g K X) h))
/-- quilt/quiltref01.check -/
def H84 : List (Nat × Hint) := [(10, ⟨[((1, []), none)], [(1, .pt 0 0), (3, .leaf)], [.cells [.leaf, .leaf, .leaf]], [.int .i64, .bool, .str, .sl .sexp]⟩)]
def J84 : List (Nat × Hint) := []
abbrev S84 : List Sh := [.ag [.leaf, .leaf, .leaf]]
abbrev L84 : List Lf := [.bool, .str, .sl .sexp]
def spz84 (Z : prodL L84 → Prop) : Sp := ⟨S84, L84, Z, fun g => .int .i64 (ckR ⟨g.1, g.2.1, g.2.2.1⟩), fun _ => none⟩
def F84_B2 (K : Kn) (Z : prodL L84 → Prop) (W2 : prodL [.int .i64, .bool, .str, .sl .sexp] → Prop) (i_1 : Int) (x1_1 : Bool) (x2_1 : ByteArray) (x3_1 : List Sx) : Prop :=
  bif decide (i_1 < (x3_1.length : Int)) then (
    At x3_1 i_1 fun u3 =>
  Z (u3.isList, u3.atom, u3.list, ()) ∧
  bif !decide (ckR ⟨u3.isList, u3.atom, u3.list⟩ = 0) then (
    K (.int .i64 (ckR ⟨u3.isList, u3.atom, u3.list⟩)) [])
  else (
    W2 (IntKind.i64.wrap (i_1 + 1), x1_1, x2_1, x3_1, ())))
  else (
    K (.int .i64 0) [])
def F84_L2 (K : Kn) (Z : prodL L84 → Prop) (g : prodL [.int .i64, .bool, .str, .sl .sexp]) : Prop :=
  LoopW (γ := prodL [.int .i64, .bool, .str, .sl .sexp]) (fun V y => F84_B2 K Z V y.1 y.2.1 y.2.2.1 y.2.2.2.1) g
def F84 (Z : prodL L84 → Prop) (g : prodL L84) (K : Kn) : Prop :=
  bif !g.1 then (
    bif decide (0 < (g.2.2.1.length : Int)) then (
      K (.int .i64 1) [])
    else (
      bif decide (65536 < (g.2.1.size : Int)) then (
      K (.int .i64 4) [])
    else (
      K (.int .i64 0) [])))
  else (
    bif !decide (g.2.1 = (⟨#[]⟩ : ByteArray)) then (
    K (.int .i64 1) [])
  else (
    F84_L2 K Z (0, g.1, g.2.1, g.2.2.1, ())))
theorem F84_eq (Z : prodL L84 → Prop) (g : prodL L84) (K X : Kn) : F84 Z g K = dfun D (gamX [] [(84, true, spz84 Z)]) (isRaw []) H84 J84 35 [.tmp 2] (codeOf Tryd.f84) (argsT S84 L84 g) [] (settle0 K) X := by kernel_rfl
theorem F84_ok (Z : prodL L84 → Prop) (hZ : (spz84 Z).Ok Tryd.prog 84 true) (g : prodL L84) (K X : Kn) (h : F84 Z g K) : FCalls Tryd.prog 84 (argsT S84 L84 g) [] K X :=
  FCalls.settle0 (dfun_sound (Γ := gamX [] [(84, true, spz84 Z)]) (mu := isRaw []) (H := H84) (J := J84) D_ok (gamX_ok (rs := []) (l := [(84, true, spz84 Z)]) (fun p hp => by cases hp) (by intro p hp; simp only [List.mem_cons, List.not_mem_nil, or_false] at hp; subst hp; exact hZ)) gamX_det rfl Tryd.func84 (c := codeOf Tryd.f84) rfl Tryd.ntmps84 (rs := [.tmp 2]) Tryd.results84 (by unfold enters; rw [Tryd.func84]; kernel_rfl) (Nat.le_of_ble_eq_true (by kernel_rfl)) (X := X) (c0 := 0) (Eq.mp (F84_eq Z g K X) h))
/-- quilt/csexp.shape -/
def H94 : List (Nat × Hint) := [(6, ⟨[], [(31, .leaf), (32, .leaf), (33, .leaf)], [], [.sl .sexp, .int .i64, .int .i64]⟩)]
def J94 : List (Nat × Hint) := [(2, ⟨[((1, []), none)], [(1, .pt 0 0), (6, .leaf)], [.cells [.leaf, .leaf, .leaf]], [.bool, .bool, .str, .sl .sexp]⟩)]
abbrev S94 : List Sh := [.ag [.leaf, .leaf, .leaf]]
abbrev L94 : List Lf := [.bool, .str, .sl .sexp]
def spz94 (Z : prodL L94 → Prop) : Sp := ⟨S94, L94, Z, fun g => .int .i64 (shS ⟨g.1, g.2.1, g.2.2.1⟩), fun _ => none⟩
def F94_B4 (K : Kn) (Z : prodL L94 → Prop) (W4 : prodL [.sl .sexp, .int .i64, .int .i64] → Prop) (t_3 : List Sx) (t2_3 : Int) (t3_3 : Int) : Prop :=
  bif decide (t3_3 < t2_3) then (
    At t_3 t3_3 fun u5 =>
  Z (u5.isList, u5.atom, u5.list, ()) ∧
  bif !decide (shS ⟨u5.isList, u5.atom, u5.list⟩ = 0) then (
    K (.int .i64 (shS ⟨u5.isList, u5.atom, u5.list⟩)) [])
  else (
    W4 (t_3, t2_3, IntKind.i64.wrap (t3_3 + 1), ())))
  else (
    K (.int .i64 0) [])
def F94_L4 (K : Kn) (Z : prodL L94 → Prop) (g : prodL [.sl .sexp, .int .i64, .int .i64]) : Prop :=
  LoopW (γ := prodL [.sl .sexp, .int .i64, .int .i64]) (fun V y => F94_B4 K Z V y.1 y.2.1 y.2.2.1) g
def F94_J2 (K : Kn) (Z : prodL L94 → Prop) (t_1 : Bool) (x1_1 : Bool) (x2_1 : ByteArray) (x3_1 : List Sx) : Prop :=
  bif t_1 then (
    K (.int .i64 1) [])
  else (
    bif decide (65536 < (x2_1.size : Int)) then (
      K (.int .i64 4) [])
    else (
      F94_L4 K Z (x3_1, (x3_1.length : Int), 0, ())))
def F94 (Z : prodL L94 → Prop) (g : prodL L94) (K : Kn) : Prop :=
  bif g.1 then (
    bif !decide (g.2.1 = (⟨#[]⟩ : ByteArray)) then (
      F94_J2 K Z true g.1 g.2.1 g.2.2.1)
    else (
      bif !g.1 then (
        F94_J2 K Z (decide (0 < (g.2.2.1.length : Int))) g.1 g.2.1 g.2.2.1)
      else (
        F94_J2 K Z false g.1 g.2.1 g.2.2.1)))
  else (
    bif !g.1 then (
      F94_J2 K Z (decide (0 < (g.2.2.1.length : Int))) g.1 g.2.1 g.2.2.1)
    else (
      F94_J2 K Z false g.1 g.2.1 g.2.2.1))
theorem F94_eq (Z : prodL L94 → Prop) (g : prodL L94) (K X : Kn) : F94 Z g K = dfun D (gamX [] [(94, true, spz94 Z)]) (isRaw []) H94 J94 43 [.tmp 2] (codeOf Tryd.f94) (argsT S94 L94 g) [] (settle0 K) X := by kernel_rfl
theorem F94_ok (Z : prodL L94 → Prop) (hZ : (spz94 Z).Ok Tryd.prog 94 true) (g : prodL L94) (K X : Kn) (h : F94 Z g K) : FCalls Tryd.prog 94 (argsT S94 L94 g) [] K X :=
  FCalls.settle0 (dfun_sound (Γ := gamX [] [(94, true, spz94 Z)]) (mu := isRaw []) (H := H94) (J := J94) D_ok (gamX_ok (rs := []) (l := [(94, true, spz94 Z)]) (fun p hp => by cases hp) (by intro p hp; simp only [List.mem_cons, List.not_mem_nil, or_false] at hp; subst hp; exact hZ)) gamX_det rfl Tryd.func94 (c := codeOf Tryd.f94) rfl Tryd.ntmps94 (rs := [.tmp 2]) Tryd.results94 (by unfold enters; rw [Tryd.func94]; kernel_rfl) (Nat.le_of_ble_eq_true (by kernel_rfl)) (X := X) (c0 := 0) (Eq.mp (F94_eq Z g K X) h))
/-- (*quilt/csexp.measure).add -/
def H93 : List (Nat × Hint) := [(6, ⟨[], [(0, .pt 0 0), (2, .leaf), (31, .leaf), (32, .leaf), (33, .leaf)], [.cells [.leaf, .leaf]], [.int .i64, .sl .sexp, .int .i64, .int .i64, .int .i64, .bool]⟩)]
def J93 : List (Nat × Hint) := [(3, ⟨[((4, []), none)], [(0, .pt 0 0), (2, .leaf), (4, .pt 1 0), (23, .leaf)], [.cells [.leaf, .leaf], .cells [.leaf, .leaf, .leaf]], [.int .i64, .bool, .int .i64, .bool, .bool, .str, .sl .sexp]⟩), (4, ⟨[((4, []), none)], [(0, .pt 0 0), (2, .leaf), (4, .pt 1 0)], [.cells [.leaf, .leaf], .cells [.leaf, .leaf, .leaf]], [.int .i64, .int .i64, .bool, .bool, .str, .sl .sexp]⟩)]
abbrev S93 : List Sh := [.pt 0 0, .ag [.leaf, .leaf, .leaf], .leaf]
abbrev L93 : List Lf := [.bool, .str, .sl .sexp, .int .i64, .int .i64, .bool]
abbrev O93 : List ObSh := [.cells [.leaf, .leaf]]
def rwz93 (Z : prodL L93 → Prop) : Raw := ⟨S93, O93, L93, 0, fun g K X => Z g ∧ addF g K X⟩
def F93_B5 (K : Kn) (Z : prodL L93 → Prop) (W5 : prodL [.int .i64, .sl .sexp, .int .i64, .int .i64, .int .i64, .bool] → Prop) (level_4 : Int) (t_4 : List Sx) (t2_4 : Int) (t3_4 : Int) (o01_4 : Int) (o02_4 : Bool) : Prop :=
  bif decide (t3_4 < t2_4) then (
    At t_4 t3_4 fun u6 =>
  bif o02_4 then (
    K (.tu []) [some (.cells [.int .i64 o01_4, .bool o02_4])])
  else (
    Z (u6.isList, u6.atom, u6.list, IntKind.i64.wrap (level_4 + 1), o01_4, o02_4, ()) ∧
  W5 (level_4, t_4, t2_4, IntKind.i64.wrap (t3_4 + 1), (madd ⟨u6.isList, u6.atom, u6.list⟩ o01_4 o02_4 (IntKind.i64.wrap (level_4 + 1))).1, (madd ⟨u6.isList, u6.atom, u6.list⟩ o01_4 o02_4 (IntKind.i64.wrap (level_4 + 1))).2, ())))
  else (
    K (.tu []) [some (.cells [.int .i64 o01_4, .bool o02_4])])
def F93_L5 (K : Kn) (Z : prodL L93 → Prop) (g : prodL [.int .i64, .sl .sexp, .int .i64, .int .i64, .int .i64, .bool]) : Prop :=
  LoopW (γ := prodL [.int .i64, .sl .sexp, .int .i64, .int .i64, .int .i64, .bool]) (fun V y => F93_B5 K Z V y.1 y.2.1 y.2.2.1 y.2.2.2.1 y.2.2.2.2.1 y.2.2.2.2.2.1) g
def F93_J7 (K : Kn) (Z : prodL L93 → Prop) (level_3 : Int) (o01_3 : Int) (o02_3 : Bool) (x1_3 : Bool) (x2_3 : ByteArray) (x3_3 : List Sx) : Prop :=
  bif !x1_3 then (
    K (.tu []) [some (.cells [.int .i64 o01_3, .bool o02_3])])
  else (
    F93_L5 K Z (level_3, x3_3, (x3_3.length : Int), 0, o01_3, o02_3, ()))
def F93_J2 (K : Kn) (Z : prodL L93 → Prop) (level_1 : Int) (t_1 : Bool) (o01_1 : Int) (o02_1 : Bool) (x1_1 : Bool) (x2_1 : ByteArray) (x3_1 : List Sx) : Prop :=
  bif t_1 then (
    F93_J7 K Z level_1 o01_1 true x1_1 x2_1 x3_1)
  else (
    F93_J7 K Z level_1 o01_1 o02_1 x1_1 x2_1 x3_1)
def F93 (Z : prodL L93 → Prop) (g : prodL L93) (K : Kn) : Prop :=
  bif decide (20000 < IntKind.i64.wrap (g.2.2.2.2.1 + 1)) then (
    F93_J2 K Z g.2.2.2.1 true (IntKind.i64.wrap (g.2.2.2.2.1 + 1)) g.2.2.2.2.2.1 g.1 g.2.1 g.2.2.1)
  else (
    F93_J2 K Z g.2.2.2.1 (decide (12 < g.2.2.2.1)) (IntKind.i64.wrap (g.2.2.2.2.1 + 1)) g.2.2.2.2.2.1 g.1 g.2.1 g.2.2.1)
theorem F93_eq (Z : prodL L93 → Prop) (g : prodL L93) (K X : Kn) : F93 Z g K = dfun D (gamX [(93, rwz93 Z)] []) (isRaw [(93, rwz93 Z)]) H93 J93 47 [] (codeOf Tryd.f93) (argsT S93 L93 g) (storeT S93 O93 L93 g) (settleD (storeT S93 O93 L93 g).length 0 K) X 0 := by kernel_rfl
theorem F93_ok (Z : prodL L93 → Prop) (hZ : (rwz93 Z).Ok Tryd.prog 93) (g : prodL L93) (K X : Kn) (h : F93 Z g K) : FCalls Tryd.prog 93 (argsT S93 L93 g) (storeT S93 O93 L93 g) K X 0 :=
  FCalls.settleD (dfun_sound (Γ := gamX [(93, rwz93 Z)] []) (mu := isRaw [(93, rwz93 Z)]) (H := H93) (J := J93) D_ok (gamX_ok (rs := [(93, rwz93 Z)]) (l := []) (by intro p hp; simp only [List.mem_cons, List.not_mem_nil, or_false] at hp; subst hp; exact hZ) (fun p hp => by cases hp)) gamX_det rfl Tryd.func93 (c := codeOf Tryd.f93) rfl Tryd.ntmps93 (rs := []) Tryd.results93 (by unfold enters; rw [Tryd.func93]; kernel_rfl) (Nat.le_of_ble_eq_true (by kernel_rfl)) (X := X) (c0 := 0) (Eq.mp (F93_eq Z g K X) h))
end Go.Proofs.YtoclmkbjgmgekaaDoor

/-
  Csexp: the functions that call themselves yield what is said of them.
-/
namespace Go.Proofs.YtoclmkbjgmgekaaDoor
set_option linter.unusedVariables false
set_option linter.unusedSimpArgs false
set_option linter.unusedSectionVars false
open Go.RowKit

theorem wrap64 {n : Int} (h1 : -9223372036854775808 ≤ n) (h2 : n < 9223372036854775808) : IntKind.i64.wrap n = n := by
  simp [IntKind.wrap, IntKind.bits, IntKind.signed]; omega
theorem At_of {α : Type} {l : List α} {n : Nat} {K : α → Prop} (h : n < l.length) (hK : K l[n]) : At l (n : Int) K :=
  ⟨by omega, l[n], by simp [h], hK⟩
theorem wrapS {n N : Nat} (h : n < N) (hN : N ≤ 4294967296) : IntKind.i64.wrap ((n : Int) + 1) = ((n + 1 : Nat) : Int) := by
  rw [wrap64 (by omega) (by omega)]; rfl
/-- A loop over a list. -/
theorem LoopW.fold {α σ γ : Type} {body : (γ → Prop) → γ → Prop} {g : γ} (l : List α) (S : Nat → σ → γ) (P : List α → Nat → σ → Prop) {a0 : σ} (hg : g = S 0 a0) (h0 : P l 0 a0)
    (hn : ∀ a, P [] l.length a → ∀ W, body W (S l.length a)) (hc : ∀ n (h : n < l.length) r a, r = l.drop (n + 1) → P (l[n] :: r) n a → ∀ W : γ → Prop, (∀ a', P r (n + 1) a' → W (S (n + 1) a')) → body W (S n a)) : LoopW body g := by
  rw [hg]
  have key : ∀ k n a, n + k = l.length → P (l.drop n) n a → loopN body (k + 1) (S n a) := by
    intro k
    induction k with
    | zero =>
      intro n a hk hp
      have : n = l.length := by omega
      subst this
      rw [List.drop_length] at hp
      exact hn a hp _
    | succ k ih =>
      intro n a hk hp
      have hlt : n < l.length := by omega
      rw [List.drop_eq_getElem_cons hlt] at hp
      exact hc n hlt _ a rfl hp _ fun a' hp' => ih (n + 1) a' (by omega) hp'
  exact ⟨l.length + 1, key l.length 0 a0 (by omega) h0⟩
theorem mem_bk : ∀ {l : List Sx} {x : Sx}, x ∈ l → bkS x ≤ bkSs l
  | y :: l, x, h => by
    simp only [bkSs]
    rcases List.mem_cons.1 h with rfl | h
    · omega
    · have := mem_bk h; omega
theorem mem_nodes : ∀ {l : List Sx} {x : Sx}, x ∈ l → nodesS x ≤ nodesL l
  | y :: l, x, h => by
    simp only [nodesL]
    rcases List.mem_cons.1 h with rfl | h
    · omega
    · have := mem_nodes h; omega
theorem bk_pos (x : Sx) : 3 ≤ bkS x := by cases x; simp only [bkS]; omega
theorem len_bk : ∀ (l : List Sx), 3 * l.length ≤ bkSs l
  | [] => by simp [bkSs]
  | x :: l => by
    have := len_bk l
    have := bk_pos x
    simp only [bkSs, List.length_cons]; omega
theorem lim_eq : lim = 1073741824 := rfl
/-- The elements of a list that is small are small. -/
theorem small {b : Bool} {a : ByteArray} {l : List Sx} (h : bkS ⟨b, a, l⟩ ≤ lim) : l.length ≤ 4294967296 ∧ a.size ≤ lim ∧ bkSs l ≤ lim ∧ ∀ x ∈ l, bkS ⟨x.isList, x.atom, x.list⟩ ≤ lim ∧ nodesS ⟨x.isList, x.atom, x.list⟩ < nodesS ⟨b, a, l⟩ := by
  simp only [bkS] at h
  have := len_bk l
  rw [lim_eq] at *
  refine ⟨by omega, by omega, by omega, fun x hx => ?_⟩
  rw [Sx.eta]
  have := mem_bk hx
  have := mem_nodes hx
  simp only [nodesS]
  exact ⟨by omega, by omega⟩
theorem bif_not {b : Bool} {p q : Prop} : (bif !b then p else q) = bif b then q else p := by cases b <;> rfl
theorem bif_dec {c : Prop} [Decidable c] {p q : Prop} : (bif decide c then p else q) = if c then p else q := by by_cases h : c <;> simp [h]

/-! ### quiltref01.check -/
theorem F84_is {Z : prodL L84 → Prop} {b : Bool} {a : ByteArray} {l : List Sx} {K : Kn} (hs : l.length ≤ 4294967296) (hZ : ∀ x ∈ l, Z (x.isList, x.atom, x.list, ())) (h : K (.int .i64 (ckR ⟨b, a, l⟩)) []) : F84 Z (b, a, l, ()) K := by
  unfold F84
  simp only [ckR] at h
  dsimp only [Lf.ty, prodL] at h ⊢
  simp only [bif_not, bif_dec]
  cases b
  · simp only [if_true, cond_false] at h ⊢
    by_cases h1 : 0 < l.length
    · rw [if_pos h1] at h; rw [if_pos (by omega)]; exact h
    · rw [if_neg h1] at h; rw [if_neg (by omega)]
      by_cases h2 : 65536 < a.size
      · rw [if_pos h2] at h; rw [if_pos (by omega)]; exact h
      · rw [if_neg h2] at h; rw [if_neg (by omega)]; exact h
  · simp only [Bool.true_eq_false, if_false, cond_true] at h ⊢
    by_cases h1 : a = ⟨#[]⟩
    · rw [if_neg (by simpa using h1)] at h; rw [if_pos h1]
      unfold F84_L2
      refine LoopW.fold l (fun n (_ : Unit) => ((n : Int), true, a, l, ())) (fun r _ _ => K (.int .i64 (ckRs r)) []) (a0 := ()) rfl h (fun _ hp W => ?_) (fun n hn r _ hr hp W hW => ?_)
      · unfold F84_B2
        rw [bif_dec, if_neg (by dsimp only; omega)]
        exact hp
      · unfold F84_B2
        rw [bif_dec, if_pos (by dsimp only; omega)]
        refine At_of hn ⟨hZ _ (List.getElem_mem hn), ?_⟩
        rw [Sx.eta, bif_not, bif_dec]
        simp only [ckRs] at hp
        by_cases h2 : ckR l[n] = 0
        · rw [if_pos h2] at hp ⊢; rw [wrapS hn hs]; exact hW () hp
        · rw [if_neg h2] at hp ⊢; exact hp
    · rw [if_pos (by simpa using h1)] at h; rw [if_neg h1]; exact h
def sp84 : Sp := spz84 fun g => bkS ⟨g.1, g.2.1, g.2.2.1⟩ ≤ lim
theorem sp84_all : ∀ n, (spz84 fun g => bkS ⟨g.1, g.2.1, g.2.2.1⟩ ≤ lim ∧ nodesS ⟨g.1, g.2.1, g.2.2.1⟩ < n).Ok Tryd.prog 84 true
  | 0 => ⟨fun _ _ _ h _ => absurd h.2 (Nat.not_lt_zero _), fun _ _ _ => rfl, fun _ => rfl, fun _ _ => ⟨rfl, rfl⟩⟩
  | n + 1 => ⟨fun g _ X hp h => F84_ok _ (sp84_all n) _ _ X (F84_is (small hp.1).1 (fun x hx => ⟨((small hp.1).2.2.2 x hx).1, by have := ((small hp.1).2.2.2 x hx).2; have := hp.2; dsimp only at *; omega⟩) h), fun _ _ _ => rfl, fun _ => rfl, fun _ _ => ⟨rfl, rfl⟩⟩
theorem sp84_ok : sp84.Ok Tryd.prog 84 true :=
  ⟨fun g K X hp h => (sp84_all (nodesS ⟨g.1, g.2.1, g.2.2.1⟩ + 1)).calls g K X ⟨hp, Nat.lt_succ_self _⟩ h, fun _ _ _ => rfl, fun _ => rfl, fun _ _ => ⟨rfl, rfl⟩⟩

/-! ### csexp.shape -/
theorem F94_is {Z : prodL L94 → Prop} {b : Bool} {a : ByteArray} {l : List Sx} {K : Kn} (hs : l.length ≤ 4294967296) (hZ : ∀ x ∈ l, Z (x.isList, x.atom, x.list, ())) (h : K (.int .i64 (shS ⟨b, a, l⟩)) []) : F94 Z (b, a, l, ()) K := by
  have hloop : (65536 < a.size → K (.int .i64 4) []) → (¬ 65536 < a.size → K (.int .i64 (shSs l)) []) → bif decide (65536 < (a.size : Int)) then K (.int .i64 4) [] else F94_L4 K Z (l, (l.length : Int), 0, ()) := fun h1 h2 => by
    rw [bif_dec]
    split
    · exact h1 (by omega)
    · unfold F94_L4
      refine LoopW.fold l (fun n (_ : Unit) => (l, (l.length : Int), (n : Int), ())) (fun r _ _ => K (.int .i64 (shSs r)) []) (a0 := ()) rfl (h2 (by omega)) (fun _ hp W => ?_) (fun n hn r _ hr hp W hW => ?_)
      · unfold F94_B4
        rw [bif_dec, if_neg (by dsimp only; omega)]
        exact hp
      · unfold F94_B4
        rw [bif_dec, if_pos (by dsimp only; omega)]
        refine At_of hn ⟨hZ _ (List.getElem_mem hn), ?_⟩
        rw [Sx.eta, bif_not, bif_dec]
        simp only [shSs] at hp
        by_cases h2 : shS l[n] = 0
        · rw [if_pos h2] at hp ⊢; rw [wrapS hn hs]; exact hW () hp
        · rw [if_neg h2] at hp ⊢; exact hp
  unfold F94
  simp only [shS] at h
  dsimp only [Lf.ty, prodL] at h ⊢
  cases b
  · simp only [Bool.false_eq_true, false_and, true_and, false_or, cond_false, Bool.not_false, cond_true, F94_J2, bif_dec] at h ⊢
    by_cases h1 : 0 < l.length
    · rw [if_pos h1] at h; rw [if_pos (by omega)]; exact h
    · rw [if_neg h1] at h; rw [if_neg (by omega)]
      have := hloop (fun h2 => by rw [if_pos h2] at h; exact h) (fun h2 => by rw [if_neg h2] at h; exact h)
      rwa [bif_dec] at this
  · simp only [true_and, Bool.true_eq_false, false_and, or_false, cond_false, Bool.not_true, cond_true, F94_J2, bif_not, bif_dec] at h ⊢
    by_cases h1 : a = ⟨#[]⟩
    · rw [if_neg (by simpa using h1)] at h; rw [if_pos h1]
      have := hloop (fun h2 => by rw [if_pos h2] at h; exact h) (fun h2 => by rw [if_neg h2] at h; exact h)
      rwa [bif_dec] at this
    · rw [if_pos (by simpa using h1)] at h; rw [if_neg h1]; exact h
def sp94 : Sp := spz94 fun g => bkS ⟨g.1, g.2.1, g.2.2.1⟩ ≤ lim
theorem sp94_all : ∀ n, (spz94 fun g => bkS ⟨g.1, g.2.1, g.2.2.1⟩ ≤ lim ∧ nodesS ⟨g.1, g.2.1, g.2.2.1⟩ < n).Ok Tryd.prog 94 true
  | 0 => ⟨fun _ _ _ h _ => absurd h.2 (Nat.not_lt_zero _), fun _ _ _ => rfl, fun _ => rfl, fun _ _ => ⟨rfl, rfl⟩⟩
  | n + 1 => ⟨fun g _ X hp h => F94_ok _ (sp94_all n) _ _ X (F94_is (small hp.1).1 (fun x hx => ⟨((small hp.1).2.2.2 x hx).1, by have := ((small hp.1).2.2.2 x hx).2; have := hp.2; dsimp only at *; omega⟩) h), fun _ _ _ => rfl, fun _ => rfl, fun _ _ => ⟨rfl, rfl⟩⟩
theorem sp94_ok : sp94.Ok Tryd.prog 94 true :=
  ⟨fun g K X hp h => (sp94_all (nodesS ⟨g.1, g.2.1, g.2.2.1⟩ + 1)).calls g K X ⟨hp, Nat.lt_succ_self _⟩ h, fun _ _ _ => rfl, fun _ => rfl, fun _ _ => ⟨rfl, rfl⟩⟩

/-! ### quiltref01.long -/
/-! ### quiltref01.Same -/
end Go.Proofs.YtoclmkbjgmgekaaDoor

/-
  Csexp: count and add.
-/
namespace Go.Proofs.YtoclmkbjgmgekaaDoor
set_option linter.unusedVariables false
set_option linter.unusedSimpArgs false
set_option linter.unusedSectionVars false
open Go.RowKit

mutual
theorem cnt_le : ∀ (x : Sx) (lim d : Int), 0 ≤ lim → 1 ≤ cnt x lim d ∧ cnt x lim d ≤ lim + 1
  | ⟨b, a, l⟩, lim, d, h => by
    simp only [cnt]
    split
    · omega
    · split
      · omega
      · rename_i h1 _
        exact cnts_le l lim (d - 1) 1 (by omega) (by omega)
theorem cnts_le : ∀ (l : List Sx) (lim d n : Int), 1 ≤ n → n ≤ lim + 1 → 1 ≤ cnts l lim d n ∧ cnts l lim d n ≤ lim + 1
  | [], lim, d, n, h1, h2 => by simp only [cnts]; omega
  | x :: l, lim, d, n, h1, h2 => by
    simp only [cnts]
    split
    · have := cnt_le x (lim - n) d (by omega)
      exact cnts_le l lim d _ (by omega) (by omega)
    · omega
end
theorem sub1 {d N : Int} (h1 : 1 ≤ d) (h2 : d ≤ N) : 0 ≤ d - 1 ∧ d - 1 ≤ N := ⟨by omega, by omega⟩
def cntP (x : Sx) (m d : Int) : Prop := bkS x ≤ lim ∧ (0 ≤ m ∧ m ≤ 1099511627776) ∧ 0 ≤ d ∧ d ≤ 1099511627776
def cntPre (g : prodL L83) : Prop := cntP ⟨g.1, g.2.1, g.2.2.1⟩ g.2.2.2.1 g.2.2.2.2.1
theorem F83_is {Z : prodL L83 → Prop} {b : Bool} {a : ByteArray} {l : List Sx} {m d : Int} {K : Kn} (hs : l.length ≤ 4294967296) (hm : 0 ≤ m ∧ m ≤ 1099511627776) (hd : 0 ≤ d ∧ d ≤ 1099511627776)
    (hZ : ∀ x ∈ l, ∀ k : Int, 0 ≤ k → k ≤ m → 1 ≤ d → Z (x.isList, x.atom, x.list, k, d - 1, ())) (h : K (.int .i64 (cnt ⟨b, a, l⟩ m d)) []) : F83 Z (b, a, l, m, d, ()) K := by
  unfold F83
  simp only [cnt] at h
  dsimp only [Lf.ty, prodL] at h ⊢
  simp only [F83_J2, bif_dec]
  by_cases h1 : d < 1
  · rw [if_pos (.inl h1)] at h
    simp only [if_pos h1, cond_true]
    rw [wrap64 (by omega) (by omega)]; exact h
  simp only [if_neg h1]
  by_cases h2 : m < 1
  · rw [if_pos (.inr h2)] at h
    simp only [if_pos h2]
    rw [wrap64 (by omega) (by omega)]; exact h
  rw [if_neg (by omega)] at h
  simp only [if_neg h2, bif_not]
  cases b
  · exact h
  simp only [Bool.true_eq_false, if_false, cond_true] at h ⊢
  unfold F83_L4
  refine LoopW.fold l (fun n (c : Int) => (m, d, c, (n : Int), true, a, l, ())) (fun r _ c => K (.int .i64 (cnts r m (d - 1) c)) [] ∧ 1 ≤ c ∧ c ≤ m + 1) rfl ⟨h, by omega, by omega⟩ (fun c hp W => ?_) (fun n hn r c hr hp W hW => ?_)
  · unfold F83_B4
    rw [bif_dec, if_neg (by dsimp only; omega)]
    exact hp.1
  · unfold F83_B4
    obtain ⟨hp, hc1, hc2⟩ := hp
    rw [bif_dec, if_pos (by dsimp only; omega), bif_dec]
    simp only [cnts] at hp
    dsimp only
    by_cases h3 : c ≤ m
    · rw [if_pos h3] at hp ⊢
      have := cnt_le l[n] (m - c) (d - 1) (by omega)
      refine At_of hn ?_
      rw [wrap64 (n := m - c) (by omega) (by omega), wrap64 (n := d - 1) (by omega) (by omega), Sx.eta, wrap64 (by omega) (by omega), wrapS hn hs]
      exact ⟨hZ _ (List.getElem_mem hn) _ (by omega) (by omega) (by omega), hW _ ⟨hp, by omega, by omega⟩⟩
    · rw [if_neg h3] at hp ⊢
      exact hp
def sp83 : Sp := spz83 cntPre
theorem sp83_all : ∀ n, (spz83 fun g => cntPre g ∧ nodesS ⟨g.1, g.2.1, g.2.2.1⟩ < n).Ok Tryd.prog 83 true
  | 0 => ⟨fun _ _ _ h _ => absurd h.2 (Nat.not_lt_zero _), fun _ _ _ => rfl, fun _ => rfl, fun _ _ => ⟨rfl, rfl⟩⟩
  | n + 1 => ⟨by
      rintro ⟨b, a, l, m, d, ⟨⟩⟩ K X ⟨⟨q1, ⟨q2, q3⟩, q4, q5⟩, q6⟩ h
      refine F83_ok _ (sp83_all n) _ _ X (F83_is (small q1).1 ⟨q2, q3⟩ ⟨q4, q5⟩ (fun x hx k k1 k2 k3 => ?_) h)
      obtain ⟨s1, s2⟩ := (small q1).2.2.2 x hx
      dsimp only [Lf.ty] at *
      exact ⟨⟨s1, ⟨k1, (by omega : k ≤ 1099511627776)⟩, sub1 k3 q5⟩, (by omega : nodesS ⟨x.isList, x.atom, x.list⟩ < n)⟩, fun _ _ _ => rfl, fun _ => rfl, fun _ _ => ⟨rfl, rfl⟩⟩
theorem sp83_ok : sp83.Ok Tryd.prog 83 true :=
  ⟨fun g K X hp h => (sp83_all (nodesS ⟨g.1, g.2.1, g.2.2.1⟩ + 1)).calls g K X ⟨hp, Nat.lt_succ_self _⟩ h, fun _ _ _ => rfl, fun _ => rfl, fun _ _ => ⟨rfl, rfl⟩⟩

/-! ### csexp.measure.add -/
mutual
theorem madd_le : ∀ (x : Sx) (n : Int) (o : Bool) (d : Int), n ≤ (madd x n o d).1 ∧ (madd x n o d).1 ≤ n + nodesS x
  | ⟨b, a, l⟩, n, o, d => by
    simp only [madd, nodesS]
    split
    · simp only; omega
    · have := madds_le l (n + 1) (o || decide (20000 < n + 1 ∨ 12 < d)) (d + 1)
      omega
theorem madds_le : ∀ (l : List Sx) (n : Int) (o : Bool) (d : Int), n ≤ (madds l n o d).1 ∧ (madds l n o d).1 ≤ n + nodesL l
  | [], n, o, d => by simp [madds, nodesL]
  | x :: l, n, o, d => by
    simp only [madds, nodesL]
    split
    · simp only; omega
    · have h1 := madd_le x n o d
      have h2 := madds_le l (madd x n o d).1 (madd x n o d).2 d
      omega
end
mutual
theorem nodes_bk : ∀ (x : Sx), nodesS x ≤ bkS x
  | ⟨b, a, l⟩ => by have := nodesL_bk l; simp only [nodesS, bkS]; omega
theorem nodesL_bk : ∀ (l : List Sx), nodesL l ≤ bkSs l
  | [] => by simp [nodesL, bkSs]
  | x :: l => by have := nodes_bk x; have := nodesL_bk l; simp only [nodesL, bkSs]; omega
end
/-- Levels, too, are small: no expression is deeper than it has nodes. -/
def addP (x : Sx) (d n : Int) : Prop := bkS x ≤ lim ∧ (0 ≤ n ∧ n + nodesS x ≤ 1099511627776) ∧ 0 ≤ d ∧ d + nodesS x ≤ 1099511627776
def addPre (g : prodL L93) : Prop := addP ⟨g.1, g.2.1, g.2.2.1⟩ g.2.2.2.1 g.2.2.2.2.1
theorem F93_is {Z : prodL L93 → Prop} {b : Bool} {a : ByteArray} {l : List Sx} {d n : Int} {o : Bool} {K X : Kn} (hs : l.length ≤ 4294967296) (hn : 0 ≤ n ∧ n + 1 + nodesL l ≤ 1099511627776) (hd : 0 ≤ d ∧ d + 1 + nodesL l ≤ 1099511627776)
    (hZ : ∀ x ∈ l, ∀ k o', n ≤ k → k + nodesS x ≤ 1099511627776 → Z (x.isList, x.atom, x.list, d + 1, k, o', ())) (h : addF (b, a, l, d, n, o, ()) K X) : F93 Z (b, a, l, d, n, o, ()) K := by
  unfold addF at h
  simp only [madd] at h
  have hrest : ∀ o2, o2 = (o || decide (20000 < n + 1 ∨ 12 < d)) → F93_J7 K Z d (n + 1) o2 b a l := fun o2 ho => by
    rw [← ho] at h
    unfold F93_J7
    rw [bif_not]
    cases b
    · simp only [if_true] at h
      exact h
    simp only [Bool.true_eq_false, if_false, cond_true] at h ⊢
    unfold F93_L5
    refine LoopW.fold l (fun i (c : Int × Bool) => (d, l, (l.length : Int), (i : Int), c.1, c.2, ())) (fun r _ c => K (.tu []) [some (.cells [.int .i64 (madds r c.1 c.2 (d + 1)).1, .bool (madds r c.1 c.2 (d + 1)).2])] ∧ n ≤ c.1 ∧ c.1 + nodesL r ≤ 1099511627776) (a0 := (n + 1, o2)) rfl ⟨h, by dsimp only; omega, by dsimp only; omega⟩ (fun c hp W => ?_) (fun i hi r c hr hp W hW => ?_)
    · unfold F93_B5
      rw [bif_dec, if_neg (by dsimp only; omega)]
      exact hp.1
    · unfold F93_B5
      obtain ⟨hp, hc1, hc2⟩ := hp
      rw [bif_dec, if_pos (by dsimp only; omega)]
      refine At_of hi ?_
      simp only [madds] at hp
      simp only [nodesL] at hc2
      dsimp only
      cases ho2 : c.2
      · rw [ho2] at hp
        simp only [Bool.false_eq_true, if_false, cond_false] at hp ⊢
        rw [wrap64 (n := d + 1) (by omega) (by omega), Sx.eta, wrapS hi hs]
        have := madd_le l[i] c.1 false (d + 1)
        exact ⟨hZ _ (List.getElem_mem hi) _ _ hc1 (by omega), hW (_, _) ⟨hp, by dsimp only; omega, by dsimp only; omega⟩⟩
      · rw [ho2] at hp
        simp only [if_true, cond_true] at hp ⊢
        exact hp
  unfold F93
  dsimp only [Lf.ty, prodL]
  rw [wrap64 (n := n + 1) (by omega) (by omega)]
  simp only [bif_dec, F93_J2, cond_true]
  by_cases h1 : 20000 < n + 1
  · rw [if_pos h1]
    exact hrest true (by rw [decide_eq_true (.inl h1), Bool.or_true])
  · rw [if_neg h1]
    by_cases h2 : 12 < d
    · rw [if_pos h2]; exact hrest true (by rw [decide_eq_true (.inr h2), Bool.or_true])
    · rw [if_neg h2]; exact hrest o (by rw [decide_eq_false (by omega), Bool.or_false])
def rw93 : Raw := rwz93 addPre
theorem rw93_all : ∀ n, (rwz93 fun g => addPre g ∧ nodesS ⟨g.1, g.2.1, g.2.2.1⟩ < n).Ok Tryd.prog 93
  | 0 => fun _ _ _ h => absurd h.1.2 (Nat.not_lt_zero _)
  | n + 1 => by
    rintro ⟨b, a, l, d, m, o, ⟨⟩⟩ K X ⟨⟨⟨p1, ⟨p2, p3⟩, p4, p5⟩, p6⟩, h⟩
    obtain ⟨s1, _, _, s4⟩ := small p1
    simp only [nodesS] at p3 p5
    refine F93_ok _ (rw93_all n) _ K X (F93_is (X := X) s1 (by dsimp only [Lf.ty] at *; omega) (by dsimp only [Lf.ty] at *; omega) (fun x hx k o' k1 k2 => ?_) h)
    obtain ⟨q1, q2⟩ := s4 x hx
    have := mem_nodes hx
    have e : nodesS ⟨x.isList, x.atom, x.list⟩ = nodesS x := by rw [Sx.eta]
    dsimp only [Lf.ty] at *
    refine ⟨⟨q1, ⟨?_, ?_⟩, ?_, ?_⟩, ?_⟩ <;> (try dsimp only) <;> (try rw [e]) <;> omega
theorem rw93_ok : rw93.Ok Tryd.prog 93 := fun g K X h => rw93_all (nodesS ⟨g.1, g.2.1, g.2.2.1⟩ + 1) g K X ⟨⟨h.1, Nat.lt_succ_self _⟩, h.2⟩
end Go.Proofs.YtoclmkbjgmgekaaDoor

/-
  Csexp: what the readers are said to yield.
-/
namespace Go.Proofs.YtoclmkbjgmgekaaDoor
set_option linter.unusedVariables false
set_option linter.unusedSimpArgs false
set_option linter.unusedSectionVars false
open Go.RowKit

def headR : List UInt8 → Res UInt8 Int
  | [] => .err 11
  | c :: _ => .ok c
def inP (a b n : Int) : Prop := a ≤ n ∧ n ≤ b
def atP (s : ByteArray) (p : Int) : Prop := 0 ≤ p ∧ p ≤ (s.size : Int) ∧ s.size ≤ 2 * lim
def nextPre (g : prodL [.str, .int .i64, .int .i64]) : Prop := atP g.1 g.2.1
def nextF (g : prodL [.str, .int .i64, .int .i64]) (K X : Kn) : Prop :=
  Res.go (headR ((bl g.1).drop g.2.1.toNat)) (fun a => K (.int .u8 (a.toNat : Int)) [some (.cells [.str g.1, .int .i64 g.2.1, .int .i64 g.2.2.1])]) (fun e => X (.ic 113 (.ag [.int .i64 e])) [some (.cells [.str g.1, .int .i64 g.2.1, .int .i64 g.2.2.1])])
def numF (g : prodL [.str, .int .i64, .int .i64]) (K X : Kn) : Prop :=
  Res.go (numR true 0 ((bl g.1).drop g.2.1.toNat)) (fun a => K (.int .i64 (a.1 : Int)) [some (.cells [.str g.1, .int .i64 ((g.1.size : Int) - (a.2.length : Int)), .int .i64 g.2.2.1])]) (fun e => ∀ p : Int, X (.ic 113 (.ag [.int .i64 e])) [some (.cells [.str g.1, .int .i64 p, .int .i64 g.2.2.1])])
def atomPre (g : prodL [.str, .int .i64, .int .i64, .int .i64]) : Prop := atP g.1 g.2.1 ∧ g.2.2.2.1 = 0
def atomF (g : prodL [.str, .int .i64, .int .i64, .int .i64]) (K _ : Kn) : Prop :=
  Res.go (atomR ((bl g.1).drop g.2.1.toNat)) (fun a => K (.tu [.str (⟨a.1.toArray⟩ : ByteArray), .ag [.str g.1, .int .i64 ((g.1.size : Int) - (a.2.length : Int)), .int .i64 g.2.2.1, .int .i64 0]]) []) (fun e => ∀ p : Int, K (.tu [.str (⟨#[]⟩ : ByteArray), .ag [.str g.1, .int .i64 p, .int .i64 g.2.2.1, .int .i64 e]]) [])
def readPre (g : prodL [.str, .int .i64, .int .i64, .int .i64, .int .i64]) : Prop := atP g.1 g.2.1 ∧ inP 0 20000 g.2.2.1 ∧ g.2.2.2.1 = 0 ∧ inP 0 12 g.2.2.2.2.1
def readF (g : prodL [.str, .int .i64, .int .i64, .int .i64, .int .i64]) (K _ : Kn) : Prop :=
  Res.go (rdS g.2.2.2.2.1.toNat (20000 - g.2.2.1).toNat ((bl g.1).drop g.2.1.toNat)) (fun a => K (.tu [.ag [.bool a.1.isList, .str a.1.atom, .sl false .sexp a.1.list], .ag [.str g.1, .int .i64 ((g.1.size : Int) - (a.2.2.length : Int)), .int .i64 (20000 - (a.2.1 : Int)), .int .i64 0]]) [])
    (fun e => ∀ (y : Sx) (p m : Int), K (.tu [.ag [.bool y.isList, .str y.atom, .sl false .sexp y.list], .ag [.str g.1, .int .i64 p, .int .i64 m, .int .i64 e]]) [])
def sexpPre (g : prodL [.int .i64, .str, .int .i64, .int .i64]) : Prop := inP 1 13 g.1 ∧ atP g.2.1 g.2.2.1 ∧ inP 0 20000 g.2.2.2.1
def sexpF (g : prodL [.int .i64, .str, .int .i64, .int .i64]) (K X : Kn) : Prop :=
  Res.go (rdS (13 - g.1).toNat g.2.2.2.1.toNat ((bl g.2.1).drop g.2.2.1.toNat)) (fun a => K (.ag [.bool a.1.isList, .str a.1.atom, .sl false .sexp a.1.list]) [some (.cells [.str g.2.1, .int .i64 ((g.2.1.size : Int) - (a.2.2.length : Int)), .int .i64 (a.2.1 : Int)])])
    (fun e => ∀ (p m : Int), X (.ic 113 (.ag [.int .i64 e])) [some (.cells [.str g.2.1, .int .i64 p, .int .i64 m])])
/-- Digits. -/
def digs (l : List UInt8) : Bool := l.all fun c => decide (48 ≤ c.toNat) && decide (c.toNat ≤ 57)
/-- quiltref01.decimal. -/
def decR : List UInt8 → Bool
  | [] => false
  | c :: r => if c.toNat = 45 ∧ r ≠ [] then !decide (r = [48]) && decR r && !decide (r.head? = some 45) else digs (c :: r) && (decide (r = []) || !decide (c.toNat = 48))
def head48 : List UInt8 → Bool
  | [] => false
  | c :: _ => decide (c.toNat = 48)
/-- csexp.canonical. -/
def canR (l : List UInt8) : Bool :=
  let d := if l.head? = some 45 then l.tail else l
  digs d && !decide (d = []) && (!head48 d || decide (l = [48]))
end Go.Proofs.YtoclmkbjgmgekaaDoor
