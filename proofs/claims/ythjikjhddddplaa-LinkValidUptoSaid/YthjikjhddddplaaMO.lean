/-
  The machine over typed values, 4: what each operation does. No program in sight.
-/
import Derived.Test.YthjikjhddddplaaMR
namespace Go.Proofs.Ythjikjhddddplaa
set_option linter.unusedVariables false
set_option linter.unusedSimpArgs false
open Go.RowKit

/-! ### Types -/
inductive Srt where
  | slice (e : TypeId)
  | array (n : Nat) (e : TypeId)
  | struct (fs : List (Nat × TypeId))
  | string
  | int (k : IntKind)
  | bool
  | other
/-- What the machine knows of a type. eqs: the leaves of a struct that can be compared. -/
structure TI where
  agg : Bool
  size : Nat
  bytes : Nat
  srt : Srt
  zero : Option (List T)
  el : Option El
  eqs : Option (List Nat)
abbrev TD := List (Nat × TI)
def tyOf : TD → TypeId → Option TI
  | [], _ => none
  | (j, x) :: r, t => if t = j then some x else tyOf r t

/-! ### Words of the printed texts -/
def atI {α : Type} (l : List α) (i : Nat) (K : α → Prop) : Prop := ∃ x, l[i]? = some x ∧ K x
def At {α : Type} (l : List α) (i : Int) (K : α → Prop) : Prop := 0 ≤ i ∧ atI l i.toNat K
def StrAt (s : ByteArray) (i : Int) (K : Int → Prop) : Prop := 0 ≤ i ∧ ∃ b : UInt8, s[i.toNat]? = some b ∧ K (b.toNat : Int)
def Room (n bytes : Nat) (A : Prop) : Prop := n * bytes ≤ 140737488355328 ∧ A
def Need (c A : Prop) : Prop := c ∧ A
def strB (s : ByteArray) : List Int := s.data.toList.map fun b => (b.toNat : Int)
def bStr (l : List Int) : ByteArray := ⟨(l.map fun n => UInt8.ofNat n.toNat).toArray⟩

abbrev Kn := T → St → Prop
def splice (cs : List T) (o : Nat) (xs : List T) : List T := cs.take o ++ (xs ++ cs.drop (o + xs.length))
def subRow (agg : Bool) (size : Nat) (cs : List T) (off : Nat) (K : T → Prop) : Prop :=
  match agg with
  | true => match decide (off + size ≤ cs.length) with
    | true => K (.ag ((cs.drop off).take size))
    | false => False
  | false => match cs[off]? with
    | some u => K u
    | none => False
/-- The list of an own array, if the reference is to what it is now. -/
def arrOf (s : St) (e : El) (k ver : Nat) : Option (List (ty e)) :=
  match rd s k with
  | some (.arr v e' l) => if h : e' = e then if v = ver then some (asKind h l) else none else none
  | _ => none
def dload (ti : TI) (s : St) (a : T) (K : T → Prop) : Prop :=
  match a with
  | .pt k off => match rd s k with
    | some (.cells cs) => subRow ti.agg ti.size cs off K
    | _ => False
  | .pr e x j => subRow ti.agg ti.size (enc e x) j K
  | .pe e k ver i j => match arrOf s e k ver with
    | some l => atI l i fun x => subRow ti.agg ti.size (enc e x) j K
    | none => False
  | _ => False
def dstore (ti : TI) (s : St) (a v : T) (K : St → Prop) : Prop :=
  match cellsOf v with
  | some xs => match decide (xs.length = ti.size) with
    | true => match a with
      | .pt k off => match rd s k with
        | some (.cells cs) => match decide (off + xs.length ≤ cs.length) with
          | true => K (s.set k (some (.cells (splice cs off xs))))
          | false => False
        | _ => False
      | .pe e k ver i j => match arrOf s e k ver with
        | some l => atI l i fun x => match decide (j + xs.length ≤ sz e) with
          | true => match dec e (splice (enc e x) j xs) with
            | some y => K (s.set k (some (.arr ver e (l.set i y))))
            | none => False
          | false => False
        | none => False
      | _ => False
    | false => False
  | none => False
def fillT (place : Nat → Option (Nat × Nat)) (cells : List T) : List (Nat × T) → Option (List T)
  | [] => some cells
  | (i, v) :: r => match place i, cellsOf v with
    | some (off, size), some xs => match decide (xs.length = size ∧ off + size ≤ cells.length) with
      | true => fillT place (splice cells off xs) r
      | false => none
    | _, _ => none
def sizeT (D : TD) (t : TypeId) : Option Nat := (tyOf D t).map (·.size)
def placesT (D : TD) (s : Srt) : Option (Nat → Option (Nat × Nat)) :=
  match s with
  | .struct fs => some fun i => match fs[i]? with
    | some (off, t) => match tyOf D t with
      | some ti => some (off, ti.size)
      | none => none
    | none => none
  | .array _ e => match tyOf D e with
    | some ti => some fun k => some (k * ti.size, ti.size)
    | none => none
  | _ => none
def decs (e : El) : Nat → List T → Option (List (ty e))
  | 0, _ => some []
  | n + 1, cs => match dec e (cs.take (sz e)), decs e n (cs.drop (sz e)) with
    | some x, some l => some (x :: l)
    | _, _ => none
/-- The elements that a slice holds, and their number. -/
def elems (s : St) (e : El) (v : T) (K : List (ty e) → Prop) : Prop :=
  match v with
  | .nil => K []
  | .sl _ e' l => if h : e' = e then K (asKind h l) else False
  | .oa e' k ver => if e' = e then match arrOf s e k ver with
    | some l => K l
    | none => False else False
  | .os e' k ver off n => if e' = e then match arrOf s e k ver with
    | some l => K ((l.drop off).take n)
    | none => False else False
  | _ => False
def lenT (s : St) (v : T) (K : Nat → Prop) : Prop :=
  match v with
  | .nil => K 0
  | .sl _ _ l => K l.length
  | .oa e k ver => match arrOf s e k ver with
    | some l => K l.length
    | none => False
  | .os _ _ _ _ n => K n
  | _ => False
def asInt (v : T) (K : Int → Prop) : Prop :=
  match v with
  | .int _ n => K n
  | _ => False
def optInt (v : Option T) (d : Int) (K : Int → Prop) : Prop :=
  match v with
  | some v => asInt v K
  | none => K d
def dsliceS (b : ByteArray) (lo hi : Option T) (K : T → Prop) : Prop :=
  optInt hi (b.size : Int) fun h => optInt lo 0 fun l => 0 ≤ l ∧ l ≤ h ∧ h ≤ (b.size : Int) ∧ K (.str (b.extract l.toNat h.toNat))
def dslice (e0 : El) (s : St) (x : T) (lo hi mx : Option T) (K : T → Prop) : Prop :=
  match mx with
  | some m => match hi with
    | some h => match x with
      | .sl _ e xs => if e0 = e then asInt m fun m => optInt lo 0 fun l => asInt h fun h => 0 ≤ l ∧ l ≤ h ∧ h = m ∧ m ≤ (xs.length : Int) ∧ K (.sl true e ((xs.take h.toNat).drop l.toNat)) else False
      | .nil => asInt m fun m => optInt lo 0 fun l => asInt h fun h => l = 0 ∧ h = 0 ∧ m = 0 ∧ K .nil
      | _ => False
    | none => False
  | none => match x with
    | .sl full e xs => if e0 = e then match hi with
      | some h => asInt h fun h => optInt lo 0 fun l => 0 ≤ l ∧ l ≤ h ∧ h ≤ (xs.length : Int) ∧ K (.sl false e ((xs.take h.toNat).drop l.toNat))
      | none => optInt lo 0 fun l => 0 ≤ l ∧ l ≤ (xs.length : Int) ∧ K (.sl full e (xs.drop l.toNat)) else False
    | .nil => optInt hi 0 fun h => optInt lo 0 fun l => l = 0 ∧ h = 0 ∧ K .nil
    | .oa e k ver => if e0 = e then match arrOf s e k ver with
      | some xs => optInt hi (xs.length : Int) fun h => optInt lo 0 fun l => 0 ≤ l ∧ l ≤ h ∧ h ≤ (xs.length : Int) ∧ K (.os e k ver l.toNat (h.toNat - l.toNat))
      | none => False else False
    | .os e k ver off n => if e0 = e then optInt hi (n : Int) fun h => optInt lo 0 fun l => 0 ≤ l ∧ l ≤ h ∧ h ≤ (n : Int) ∧ K (.os e k ver (off + l.toNat) (h.toNat - l.toNat)) else False
    | _ => False
/-- The kind of a slice type's elements. -/
def kindOf (D : TD) (T0 : TypeId) : Option El :=
  match tyOf D T0 with
  | some ti => match ti.srt with
    | .slice t => match tyOf D t with
      | some te => te.el
      | none => none
    | _ => none
  | none => none
def dsl (D : TD) (ti : TI) (t : TypeId) (s : St) (x : T) (lo hi mx : Option T) (K : T → Prop) : Prop :=
  match ti.srt with
  | .string => match x, mx with
    | .str b, none => dsliceS b lo hi K
    | _, _ => False
  | .slice _ => match kindOf D t with
    | some e0 => dslice e0 s x lo hi mx K
    | none => False
  | _ => False
/-- append. -/
def dappend (ti : TI) (s : St) (x y : T) (K : Kn) : Prop :=
  match ti.el with
  | some e => elems s e y fun m => match x with
      | .nil => Room m.length ti.bytes (K (.oa e s.length 0) (s ++ [some (.arr 0 e m)]))
      | .sl true e' l => if h : e' = e then Need (0 < m.length) (Room (l.length + m.length) ti.bytes (K (.oa e s.length 0) (s ++ [some (.arr 0 e (asKind h l ++ m))]))) else False
      | .oa e' k ver => if e' = e then match arrOf s e k ver with
        | some l => Room (l.length + m.length) ti.bytes (K (.oa e k (ver + 1)) (s.set k (some (.arr (ver + 1) e (l ++ m)))))
        | none => False else False
      | _ => False
  | none => False
/-- Cells that can be compared. Codes: 0 integers, 1 booleans, 2 strings. -/
def eqCells : List Nat → List T → List T → Option Bool
  | [], [], [] => some true
  | 0 :: ks, .int k a :: r, .int k' b :: q => match decide (k = k') with
    | true => (eqCells ks r q).map (decide (a = b) && ·)
    | false => none
  | 1 :: ks, .bool a :: r, .bool b :: q => (eqCells ks r q).map (decide (a = b) && ·)
  | 2 :: ks, .str a :: r, .str b :: q => (eqCells ks r q).map (decide (a = b) && ·)
  | _, _, _ => none
def eqKs (ti : TI) : List Nat :=
  match ti.eqs with
  | some ks => ks
  | none => []
def dcmp (op : BinOp) (a b : Int) : Option Bool :=
  match op with
  | .eql => some (decide (a = b))
  | .neq => some (!decide (a = b))
  | .lss => some (decide (a < b))
  | .leq => some (decide (a ≤ b))
  | .gtr => some (decide (b < a))
  | .geq => some (decide (b ≤ a))
  | _ => none
def bitsOf (op : BinOp) (k : IntKind) (x y : Int) : Int :=
  let a := BitVec.ofInt k.bits x
  let b := BitVec.ofInt k.bits y
  match op with
  | .and => k.wrap (a &&& b).toNat
  | .or => k.wrap (a ||| b).toNat
  | .xor => k.wrap (a ^^^ b).toNat
  | _ => k.wrap (a &&& ~~~b).toNat
def strLt (a b : ByteArray) : Bool := Op.bytesLess a.toList b.toList
def dnil (op : BinOp) (len : Nat) (K : T → Prop) : Prop :=
  match op with
  | .eql => bif decide (len = 0) then K .ub else K (.bool false)
  | .neq => bif decide (len = 0) then K .ub else K (.bool true)
  | _ => False
def dbin (op : BinOp) (ti : TI) (x y : T) (K : T → Prop) : Prop :=
  match x, y with
  | .int k a, .int k' b => match op with
    | .shl => 0 ≤ b ∧ K (.int k (k.wrap (a * 2 ^ (min b.toNat k.bits))))
    | .shr => 0 ≤ b ∧ K (.int k (a.fdiv (2 ^ (min b.toNat k.bits))))
    | op => match decide (k = k') with
      | true => match op with
        | .add => K (.int k (k.wrap (a + b)))
        | .sub => K (.int k (k.wrap (a - b)))
        | .mul => K (.int k (k.wrap (a * b)))
        | .quo => ¬ b = 0 ∧ K (.int k (k.wrap (a.tdiv b)))
        | .rem => ¬ b = 0 ∧ K (.int k (a.tmod b))
        | .and => K (.int k (bitsOf .and k a b))
        | .or => K (.int k (bitsOf .or k a b))
        | .xor => K (.int k (bitsOf .xor k a b))
        | .andNot => K (.int k (bitsOf .andNot k a b))
        | op => match dcmp op a b with
          | some c => K (.bool c)
          | none => False
      | false => False
  | .bool a, .bool b => match op, ti.srt with
    | .eql, .bool => K (.bool (decide (a = b)))
    | .neq, .bool => K (.bool (!decide (a = b)))
    | _, _ => False
  | .str a, .str b => match op with
    | .add => Room (a.size + b.size) 1 (K (.str (a ++ b)))
    | .eql => K (.bool (decide (a = b)))
    | .neq => K (.bool (!decide (a = b)))
    | .lss => K (.bool (strLt a b))
    | .leq => K (.bool (strLt a b || decide (a = b)))
    | .gtr => K (.bool (!(strLt a b || decide (a = b))))
    | .geq => K (.bool (!strLt a b))
    | _ => False
  | .ag xs, .ag ys => match ti.eqs, eqCells (eqKs ti) xs ys, op with
    | some n, some b, .eql => match decide (xs.length = n.length) with
      | true => K (.bool b)
      | false => False
    | some n, some b, .neq => match decide (xs.length = n.length) with
      | true => K (.bool (!b))
      | false => False
    | _, _, _ => False
  | _, _ => False
/-- Against nil. -/
def dbinNil (op : BinOp) (ti : TI) (s : St) (x : T) (K : T → Prop) : Prop :=
  match ti.srt with
  | .slice _ => match x with
    | .nil => dnil op 0 K
    | .sl _ _ l => dnil op l.length K
    | .oa e k ver => match arrOf s e k ver with
      | some l => dnil op l.length K
      | none => False
    | _ => False
  | _ => False
def dun (op : UnOp) (x : T) (K : T → Prop) : Prop :=
  match op, x with
  | .not, .bool b => K (.bool (!b))
  | .neg, .int k n => K (.int k (k.wrap (0 - n)))
  | .xor, .int k n => K (.int k (bitsOf .xor k (match k.signed with | true => -1 | false => k.max) n))
  | _, _ => False
def dindexAddr (D : TD) (T0 : TypeId) (s : St) (x i : T) (K : T → Prop) : Prop :=
  match i with
  | .int _ n => match x with
    | .sl _ e l => if kindOf D T0 = some e then At l n fun u => K (.pr e u 0) else False
    | .oa e k ver => if kindOf D T0 = some e then match arrOf s e k ver with
      | some l => 0 ≤ n ∧ n.toNat < l.length ∧ K (.pe e k ver n.toNat 0)
      | none => False else False
    | .os e k ver off m => if kindOf D T0 = some e then match arrOf s e k ver with
      | some _ => 0 ≤ n ∧ n.toNat < m ∧ K (.pe e k ver (off + n.toNat) 0)
      | none => False else False
    | .pt k off => match tyOf D T0 with
      | some ti => match ti.srt with
        | .array m e => match tyOf D e with
          | some te => 0 ≤ n ∧ n.toNat < m ∧ K (.pt k (off + n.toNat * te.size))
          | none => False
        | _ => False
      | none => False
    | _ => False
  | _ => False
def dindex (D : TD) (T0 : TypeId) (x i : T) (K : T → Prop) : Prop :=
  match i with
  | .int _ n => match tyOf D T0 with
    | some ti => match ti.srt, x with
      | .string, .str s => StrAt s n fun b => K (.int .u8 b)
      | .array m e, .ag cs => match tyOf D e with
        | some te => 0 ≤ n ∧ n.toNat < m ∧ subRow te.agg te.size cs (n.toNat * te.size) K
        | none => False
      | _, _ => False
    | none => False
  | _ => False
def fieldOf (D : TD) (T0 : TypeId) (f : Nat) : Option (Nat × TI) :=
  match tyOf D T0 with
  | some ti => match ti.srt with
    | .struct fs => match fs[f]? with
      | some (off, t) => match tyOf D t with
        | some te => some (off, te)
        | none => none
      | none => none
    | _ => none
  | none => none
def dfieldAddr (D : TD) (T0 : TypeId) (x : T) (f : Nat) (K : T → Prop) : Prop :=
  match fieldOf D T0 f with
  | some (off, te) => match te.size with
    | 0 => False
    | _ + 1 => match x with
      | .pt k q => K (.pt k (q + off))
      | .pr e u j => K (.pr e u (j + off))
      | .pe e k ver i j => K (.pe e k ver i (j + off))
      | _ => False
  | none => False
def dfield (D : TD) (T0 : TypeId) (x : T) (f : Nat) (K : T → Prop) : Prop :=
  match fieldOf D T0 f with
  | some (off, te) => match x with
    | .ag cs => subRow te.agg te.size cs off K
    | _ => False
  | none => False
def dbuild (D : TD) (T0 : TypeId) (parts : List (Nat × T)) (K : T → Prop) : Prop :=
  match tyOf D T0 with
  | some ti => match ti.agg, ti.zero, placesT D ti.srt with
    | true, some z, some pl => match fillT pl z parts with
      | some cs => K (.ag cs)
      | none => False
    | _, _, _ => False
  | none => False
def repT (z : List T) : Nat → List T
  | 0 => []
  | n + 1 => z ++ repT z n
def dbuildSlice (D : TD) (T0 : TypeId) (len : Nat) (parts : List (Nat × T)) (K : T → Prop) : Prop :=
  match len with
  | 0 => match parts, tyOf D T0 with
    | [], some ti => match ti.srt with
      | .slice _ => K .nil
      | _ => False
    | _, _ => False
  | _ + 1 => match tyOf D T0 with
    | some ti => match ti.srt with
      | .slice t => match tyOf D t with
        | some te => match te.zero, te.el with
          | some z, some e => match decide (len * te.size ≤ 16777216) with
            | true => match fillT (fun i => some (i * te.size, te.size)) (repT z len) parts with
              | some cs => match decs e len cs with
                | some l => K (.sl true e l)
                | none => False
              | none => False
            | false => False
          | _, _ => False
        | none => False
      | _ => False
    | none => False
def dconv (D : TD) (src dst : TypeId) (s : St) (x : T) (K : Kn) : Prop :=
  match tyOf D src, tyOf D dst with
  | some a, some b => match x, a.srt, b.srt with
    | .int _ n, _, .int k => K (.int k (k.wrap n)) s
    | .str c, .string, .string => K (.str c) s
    | _, _, _ => False
  | _, _ => False
def elemOf (D : TD) (t : TypeId) : Option TI :=
  match tyOf D t with
  | some ti => match ti.srt with
    | .slice e => tyOf D e
    | _ => none
  | none => none
def clearAt {α : Type} (l : List α) (off n : Nat) (y : α) : List α := l.take off ++ (List.replicate n y ++ l.drop (off + n))
/-- clear, of a slice. -/
def dclear (te : TI) (s : St) (x : T) (K : St → Prop) : Prop :=
  match te.el, te.zero with
  | some e, some z => match dec e z with
    | some y => match x with
      | .nil => K s
      | .oa e' k ver => if e' = e then match arrOf s e k ver with
        | some l => K (s.set k (some (.arr ver e (clearAt l 0 l.length y))))
        | none => False else False
      | .os e' k ver off n => if e' = e then match arrOf s e k ver with
        | some l => K (s.set k (some (.arr ver e (clearAt l off n y))))
        | none => False else False
      | _ => False
    | none => False
  | _, _ => False
def dbuiltin (D : TD) (b : Builtin) (ts : List TypeId) (vs : List T) (s : St) (K : Kn) : Prop :=
  match b, ts, vs with
  | .len, [t], [x] => match tyOf D t with
    | some ti => match ti.srt with
      | .string => match x with
        | .str b => K (.int .i64 (b.size : Nat)) s
        | _ => False
      | .slice _ => lenT s x fun n => K (.int .i64 (n : Nat)) s
      | _ => False
    | none => False
  | .append, [t, t'], [x, y] => match decide (t = t') with
    | true => match elemOf D t with
      | some te => match te.zero with
        | some _ => dappend te s x y K
        | none => False
      | none => False
    | false => False
  | .clear, [t], [x] => match elemOf D t with
    | some te => dclear te s x fun s => K .undef s
    | none => False
  | .min, _, [.int k a, .int _ b] => K (.int k (if b < a then b else a)) s
  | .max, _, [.int k a, .int _ b] => K (.int k (if b > a then b else a)) s
  | _, _, _ => False
/-- The function that a value names, and what it is called with. -/
def tgt : T → List T → Option (FuncId × List T)
  | .fn f xs ys, vs => some (f, xs ++ vs ++ ys)
  | _, _ => none
/-- What callees do: proved apart. -/
abbrev Gam := FuncId → List T → St → Kn → Kn → Prop
def dpick (x : Bool) (p q : T) (K : T → Prop) : Prop :=
  match p, q with
  | .bool p, .bool q => K (.bool (bif x then p else q))
  | p, q => bif x then K p else K q
def dop (D : TD) (Γ : Gam) (op : Op) (ρ : Operand → T) (s : St) (K X : Kn) : Prop :=
  match op with
  | .move x => K (ρ x) s
  | .assign x => K (ρ x) s
  | .pick c a b => match ρ c with
    | .bool x => dpick x (ρ a) (ρ b) fun v => K v s
    | _ => False
  | .alloc t => match tyOf D t with
    | some ti => match ti.zero with
      | some z => K (.pt s.length 0) (s ++ [some (.cells z)])
      | none => False
    | none => False
  | .box _ v => match cellsOf (ρ v) with
    | some z => K (.pt s.length 0) (s ++ [some (.cells z)])
    | none => False
  | .build t parts => dbuild D t (parts.toList.map fun p => (p.1, ρ p.2)) fun v => K v s
  | .buildSlice t len parts => dbuildSlice D t len (parts.toList.map fun p => (p.1, ρ p.2)) fun v => K v s
  | .load t a => match tyOf D t with
    | some ti => dload ti s (ρ a) fun v => K v s
    | none => False
  | .store t a x => match tyOf D t with
    | some ti => dstore ti s (ρ a) (ρ x) fun s => K .undef s
    | none => False
  | .nilCheck x => match ρ x with
    | .pt k q => K (.pt k q) s
    | .pr e u j => K (.pr e u j) s
    | .pe e k ver i j => K (.pe e k ver i j) s
    | .fn f xs ys => K (.fn f xs ys) s
    | _ => False
  | .binOp op t x y _ => match tyOf D t with
    | some ti => match y with
      | .const (.slice none 0 0) => dbinNil op ti s (ρ x) fun v => K v s
      | _ => dbin op ti (ρ x) (ρ y) fun v => K v s
    | none => False
  | .unOp op _ x => dun op (ρ x) fun v => K v s
  | .convert a b x => dconv D a b s (ρ x) K
  | .makeFunc (.func f) first captured => K (.fn f (first.toList.map ρ) (captured.toList.map ρ)) s
  | .slice t x lo hi mx => match tyOf D t with
    | some ti => dsl D ti t s (ρ x) (lo.map ρ) (hi.map ρ) (mx.map ρ) fun v => K v s
    | none => False
  | .fieldAddr t x f => dfieldAddr D t (ρ x) f fun v => K v s
  | .field t x f => dfield D t (ρ x) f fun v => K v s
  | .indexAddr t x i => dindexAddr D t s (ρ x) (ρ i) fun v => K v s
  | .index t x i => dindex D t (ρ x) (ρ i) fun v => K v s
  | .extract x i => match ρ x with
    | .tu vs => match vs[i]? with
      | some v => K v s
      | none => False
    | _ => False
  | .call { callee := .builtin b, args := args, argTypes := ts } => dbuiltin D b ts.toList (args.toList.map ρ) s K
  | .call { callee := .value f, args := args, argTypes := _ } => match tgt (ρ f) (args.toList.map ρ) with
    | some (g, vs) => Γ g vs s K X
    | none => False
  | _ => False
end Go.Proofs.Ythjikjhddddplaa
