/-
  The machine over typed values, 1: values. No program in sight.
-/
import Derived.Test.YthjikjhddddplaaMK
namespace Go.Proofs.Ythjikjhddddplaa
set_option linter.unusedVariables false
set_option linter.unusedSimpArgs false

/-- Values: a slice that is only read is a list; a slice of the call's own is a reference to an object of the store. -/
inductive T where
  | undef
  | int (k : IntKind) (n : Int)
  | bool (b : Bool)
  | str (s : ByteArray)
  | cst (v : Value)
  | ub
  | nil
  | sl (full : Bool) (e : El) (l : List (ty e))
  | oa (e : El) (k ver : Nat)
  | os (e : El) (k ver off n : Nat)
  | pt (k off : Nat)
  | pe (e : El) (k ver i j : Nat)
  | pr (e : El) (x : ty e) (j : Nat)
  | ag (cs : List T)
  | tu (cs : List T)
  | fn (f : FuncId) (xs ys : List T)
  | ic (t : TypeId) (v : T)
instance : Inhabited T := ⟨.undef⟩
inductive Ob where
  | cells (cs : List T)
  | arr (ver : Nat) (e : El) (l : List (ty e))
abbrev St := List (Option Ob)
abbrev Tm := List (Nat × T)
def get : Tm → Nat → T
  | [], _ => .undef
  | (j, v) :: r, i => if i = j then v else get r i
def put : Tm → Nat → T → Tm
  | [], i, v => [(i, v)]
  | (j, u) :: r, i, v => if i = j then (i, v) :: r else (j, u) :: put r i v
theorem get_put (t : Tm) (d : Nat) (v : T) (i : Nat) : get (put t d v) i = if i = d then v else get t i := by
  induction t with
  | nil => by_cases h : i = d <;> simp [put, get, h]
  | cons p r ih =>
    obtain ⟨j, u⟩ := p
    by_cases hj : d = j
    · subst hj
      by_cases h : i = d <;> simp [put, get, h]
    · by_cases h : i = j
      · subst h
        have : i ≠ d := fun e => hj e.symm
        simp [put, get, hj, this]
      · by_cases h2 : i = d
        · subst h2; simp [put, get, hj, ih]
        · simp [put, get, hj, h, ih, h2]
def rd : St → Nat → Option Ob
  | [], _ => none
  | x :: _, 0 => x
  | _ :: r, k + 1 => rd r k
theorem rd_eq (st : St) (k : Nat) : rd st k = (st[k]?).join := by
  induction st generalizing k with
  | nil => rfl
  | cons x r ih => cases k <;> simp [rd, ih]
theorem rd_some {st : St} {k : Nat} {o : Ob} : rd st k = some o ↔ st[k]? = some (some o) := by
  rw [rd_eq]; cases h : st[k]? <;> simp
/-- One cell in memory? -/
def T.one : T → Bool
  | .undef | .ag _ | .tu _ => false
  | .cst v => v.oneCell'
  | _ => true
/-- Nothing of the store is in it, and it is one cell. -/
def T.pure1 : T → Bool
  | .int .. | .bool _ | .str _ | .ub | .nil | .sl .. => true
  | .cst v => v.oneCell'
  | _ => false
def cellsOf : T → Option (List T)
  | .ag cs => some cs
  | v => if v.one = true then some [v] else none
def tcell : Value → T
  | .slice none 0 0 => .nil
  | .int k n => .int k n
  | .bool b => .bool b
  | .string s => .str s
  | .func (.func f) xs ys => if xs.isEmpty = true ∧ ys.isEmpty = true then .fn f [] [] else .cst (.func (.func f) xs ys)
  | v => .cst v
def tval : Value → T
  | .agg cs => if cs.toList.all (·.oneCell') = true then .ag (cs.toList.map tcell) else .cst (.agg cs)
  | v => tcell v
def ev (t : Tm) : Operand → T
  | .tmp i => get t i
  | .const v => tval v
  | .global g => .cst (.pointer (some ⟨g, 0, none⟩))
  | .func f => .fn f [] []
/-- What says less. -/
inductive Wk : T → T → Prop where
  | refl (v : T) : Wk v v
  | sl (full : Bool) (e : El) (l : List (ty e)) : Wk (.sl full e l) (.sl false e l)
  | nil (e : El) : Wk .nil (.sl false e [])
def asKind {e e' : El} (h : e = e') (l : List (ty e)) : List (ty e') := h ▸ l
def gInt (k : IntKind) : T → Option Int
  | .int k' n => if k' = k then some n else none
  | _ => none
def gStr : T → Option ByteArray
  | .str s => some s
  | _ => none
def gBool : T → Option Bool
  | .bool b => some b
  | _ => none
def gSl (e : El) : T → Option (List (ty e))
  | .nil => some []
  | .sl _ e' l => if h : e' = e then some (asKind h l) else none
  | _ => none
theorem gInt_ok {k : IntKind} {c : T} {n : Int} (h : gInt k c = some n) : Wk c (.int k n) := by
  unfold gInt at h
  split at h
  · split at h
    · rename_i e; subst e; injection h with h; subst h; exact .refl _
    · cases h
  · cases h
theorem gStr_ok {c : T} {s : ByteArray} (h : gStr c = some s) : Wk c (.str s) := by
  unfold gStr at h
  split at h
  · injection h with h; subst h; exact .refl _
  · cases h
theorem gBool_ok {c : T} {s : Bool} (h : gBool c = some s) : Wk c (.bool s) := by
  unfold gBool at h
  split at h
  · injection h with h; subst h; exact .refl _
  · cases h
theorem gSl_ok {e : El} {c : T} {l : List (ty e)} (h : gSl e c = some l) : Wk c (.sl false e l) := by
  unfold gSl at h
  split at h
  · injection h with h; subst h; exact .nil e
  · split at h
    · rename_i he; subst he; injection h with h; subst h; exact .sl _ _ _
    · cases h
  · cases h
end Go.Proofs.Ythjikjhddddplaa
