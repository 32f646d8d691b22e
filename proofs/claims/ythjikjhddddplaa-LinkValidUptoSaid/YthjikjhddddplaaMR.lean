/-
  The machine over typed values, 3: what values of the machine say of values in a world. No program in sight.
-/
import Derived.Test.YthjikjhddddplaaME
import Derived.WalkKit
import Derived.Lib.Hide
import Derived.Orders
namespace Go.Proofs.Ythjikjhddddplaa
set_option linter.unusedVariables false
set_option linter.unusedSimpArgs false
open Go.RowKit

def encs (e : El) (l : List (ty e)) : List T := (l.map (enc e)).flatten
theorem encs_nil {e : El} : encs e [] = [] := rfl
theorem encs_cons {e : El} {x : ty e} {l : List (ty e)} : encs e (x :: l) = enc e x ++ encs e l := rfl
theorem encs_append {e : El} {l m : List (ty e)} : encs e (l ++ m) = encs e l ++ encs e m := by simp [encs]
theorem encs_len {e : El} {l : List (ty e)} : (encs e l).length = l.length * sz e := by
  induction l with
  | nil => simp [encs]
  | cons x l ih => rw [encs_cons, List.length_append, enc_len, ih, List.length_cons, Nat.succ_mul, Nat.add_comm]
theorem encs_take {e : El} : ∀ {l : List (ty e)} {n : Nat}, (encs e l).take (n * sz e) = encs e (l.take n)
  | [], n => by simp [encs]
  | x :: l, 0 => by simp [encs]
  | x :: l, n + 1 => by
    rw [encs_cons, List.take_succ_cons, encs_cons, Nat.succ_mul, Nat.add_comm, List.take_append, enc_len]
    rw [List.take_of_length_le (by rw [enc_len]; omega), show sz e + n * sz e - sz e = n * sz e by omega, encs_take]
theorem encs_drop {e : El} : ∀ {l : List (ty e)} {n : Nat}, (encs e l).drop (n * sz e) = encs e (l.drop n)
  | [], n => by simp [encs]
  | x :: l, 0 => by simp
  | x :: l, n + 1 => by
    rw [encs_cons, List.drop_succ_cons, Nat.succ_mul, Nat.add_comm, List.drop_append, enc_len]
    rw [List.drop_of_length_le (by rw [enc_len]; omega), show sz e + n * sz e - sz e = n * sz e by omega, encs_drop, List.nil_append]
theorem encs_at {e : El} {l : List (ty e)} {i : Nat} {x : ty e} (h : l[i]? = some x) : ((encs e l).drop (i * sz e)).take (sz e) = enc e x := by
  rw [encs_drop]
  have := List.getElem?_eq_some_iff.1 h
  obtain ⟨hi, rfl⟩ := this
  rw [List.drop_eq_getElem_cons hi, encs_cons, List.take_left' (enc_len e _)]
theorem encs_get {e : El} {l : List (ty e)} {i j : Nat} {x : ty e} (h : l[i]? = some x) (hj : j < sz e) : (encs e l)[i * sz e + j]? = (enc e x)[j]? := by
  rw [← encs_at h, List.getElem?_take_of_lt hj, List.getElem?_drop]
theorem encs_pure {e : El} {l : List (ty e)} : ∀ u ∈ encs e l, u.pure1 = true := by
  intro u hu
  simp only [encs, List.mem_flatten, List.mem_map] at hu
  obtain ⟨_, ⟨x, _, rfl⟩, hu⟩ := hu
  exact enc_pure e x u hu

/-- Where an own array lies: block, length, capacity (0: nowhere). -/
structure OI where
  b : Nat
  len : Nat
  cap : Nat
structure G where
  ro : Nat → List T → Prop
  ob : Nat → Nat → Option OI

inductive R (g : G) : T → Value → Prop where
  | undef (x : Value) : R g .undef x
  | int (k : IntKind) (n : Int) : R g (.int k n) (.int k n)
  | bool (b : Bool) : R g (.bool b) (.bool b)
  | str (s : ByteArray) : R g (.str s) (.string s)
  | cst (v : Value) : R g (.cst v) v
  | ub (b : Bool) : R g .ub (.bool b)
  | nil (A : Option Addr) : R g .nil (.slice A 0 0)
  | sl (full : Bool) (e : El) (l : List (ty e)) (A : Option Addr) (c : Nat) : l.length ≤ c → c ≤ maxLen → (full = true → c = l.length) →
      (l ≠ [] → ∃ b off cs, A = some ⟨b, off, none⟩ ∧ g.ro b cs ∧ (cs.drop off).take (l.length * sz e) = encs e l) → R g (.sl full e l) (.slice A l.length c)
  | oa (e : El) (k ver : Nat) (oi : OI) (A : Option Addr) : g.ob k ver = some oi → (oi.cap ≠ 0 → A = some ⟨oi.b, 0, none⟩) → oi.len ≤ oi.cap → oi.cap ≤ maxLen → R g (.oa e k ver) (.slice A oi.len oi.cap)
  | os (e : El) (k ver off n : Nat) (oi : OI) (A : Option Addr) (c : Nat) : g.ob k ver = some oi → off + n ≤ oi.len → (n ≠ 0 → A = some ⟨oi.b, off * sz e, none⟩) → n ≤ c → c ≤ maxLen → oi.len ≤ oi.cap → R g (.os e k ver off n) (.slice A n c)
  | pt (k off : Nat) (oi : OI) : g.ob k 0 = some oi → R g (.pt k off) (.pointer (some ⟨oi.b, off, none⟩))
  | pe (e : El) (k ver i j : Nat) (oi : OI) : g.ob k ver = some oi → oi.cap ≠ 0 → R g (.pe e k ver i j) (.pointer (some ⟨oi.b, i * sz e + j, none⟩))
  | pr (e : El) (x : ty e) (j b off : Nat) (cs : List T) : g.ro b cs → (cs.drop off).take (sz e) = enc e x → R g (.pr e x j) (.pointer (some ⟨b, off + j, none⟩))
  | ag (cs : List T) (xs : Array Value) : cs.length = xs.size → (∀ (i : Nat) (c : T) (x : Value), cs[i]? = some c → xs[i]? = some x → R g c x) → (∀ (i : Nat) (x : Value), xs[i]? = some x → x.oneCell' = true) → R g (.ag cs) (.agg xs)
  | tu (cs : List T) (xs : Array Value) : cs.length = xs.size → (∀ (i : Nat) (c : T) (x : Value), cs[i]? = some c → xs[i]? = some x → R g c x) → R g (.tu cs) (.tuple xs)
  | fn (f : FuncId) (as bs : List T) (xs ys : Array Value) : as.length = xs.size → bs.length = ys.size → (∀ (i : Nat) (c : T) (x : Value), as[i]? = some c → xs[i]? = some x → R g c x) →
      (∀ (i : Nat) (c : T) (x : Value), bs[i]? = some c → ys[i]? = some x → R g c x) → R g (.fn f as bs) (.func (.func f) xs ys)
  | ic (t : TypeId) (v : T) (x : Value) : R g v x → R g (.ic t v) (.iface t x)

/-- Later ghosts say more. -/
structure G.le (g g' : G) : Prop where
  ro : ∀ b cs, g.ro b cs → g'.ro b cs
  ob : ∀ k v oi, g.ob k v = some oi → g'.ob k v = some oi
theorem G.le_refl (g : G) : g.le g := ⟨fun _ _ h => h, fun _ _ _ h => h⟩
theorem G.le.trans {g g' g'' : G} (h : g.le g') (k : g'.le g'') : g.le g'' := ⟨fun b cs e => k.ro b cs (h.ro b cs e), fun i v oi e => k.ob i v oi (h.ob i v oi e)⟩

/-- Later ghosts say more, and nothing new of places that are kept free. -/
structure GL (g : G) (st : List (Option Ob)) (g' : G) : Prop where
  le : g.le g'
  hid : ∀ (k u : Nat), st[k]? = some none → g'.ob k u = g.ob k u
theorem GL.refl (g : G) (st : List (Option Ob)) : GL g st g := ⟨G.le_refl g, fun _ _ _ => rfl⟩
theorem R.mono {g g' : G} {v : T} {x : Value} (h : R g v x) (hl : g.le g') : R g' v x := by
  induction h with
  | undef x => exact .undef x
  | int k n => exact .int k n
  | bool b => exact .bool b
  | str s => exact .str s
  | cst v => exact .cst v
  | ub b => exact .ub b
  | nil A => exact .nil A
  | sl full e l A c h1 h2 h3 h4 => exact .sl full e l A c h1 h2 h3 fun hne => by obtain ⟨b, off, cs, k1, k2, k3⟩ := h4 hne; exact ⟨b, off, cs, k1, hl.ro _ _ k2, k3⟩
  | oa e k ver oi A h1 h2 h3 h4 => exact .oa e k ver oi A (hl.ob _ _ _ h1) h2 h3 h4
  | os e k ver off n oi A c h1 h2 h3 h4 h5 h6 => exact .os e k ver off n oi A c (hl.ob _ _ _ h1) h2 h3 h4 h5 h6
  | pt k off oi h1 => exact .pt k off oi (hl.ob _ _ _ h1)
  | pe e k ver i j oi h1 h2 => exact .pe e k ver i j oi (hl.ob _ _ _ h1) h2
  | pr e x j b off cs h1 h2 => exact .pr e x j b off cs (hl.ro _ _ h1) h2
  | ag cs xs h1 _ h3 ih => exact .ag cs xs h1 ih h3
  | tu cs xs h1 _ ih => exact .tu cs xs h1 ih
  | fn f as bs xs ys h1 h2 _ _ ih1 ih2 => exact .fn f as bs xs ys h1 h2 ih1 ih2
  | ic t v x _ ih => exact .ic t v x ih
theorem R.wk {g : G} {v u : T} {x : Value} (h : R g v x) (hw : Wk v u) : R g u x := by
  cases hw with
  | refl => exact h
  | sl full e l =>
    cases h with
    | sl _ _ _ A c h1 h2 h3 h4 => exact .sl false e l A c h1 h2 (by simp) h4
  | nil e =>
    cases h with
    | nil A => exact .sl false e [] A 0 (Nat.le_refl _) (Nat.zero_le _) (by simp) (by simp)
theorem dec_ok (e : El) (cs : List T) (x : ty e) (h : dec e cs = some x) : cs.length = sz e ∧ ∀ (j : Nat) (u : T), (enc e x)[j]? = some u → ∃ c, cs[j]? = some c ∧ ∀ (g : G) (z : Value), R g c z → R g u z := by
  obtain ⟨h1, h2⟩ := dec_wk e cs x h
  exact ⟨h1, fun j u hj => by obtain ⟨c, c1, c2⟩ := h2 j u hj; exact ⟨c, c1, fun g z hz => hz.wk c2⟩⟩
/-- What holds nothing of the store needs only the read-only blocks. -/
theorem R.pure {g g' : G} {v : T} {x : Value} (h : R g v x) (hv : v.pure1 = true) (hl : ∀ b cs, g.ro b cs → g'.ro b cs) : R g' v x := by
  cases h with
  | sl full e l A c h1 h2 h3 h4 => exact .sl full e l A c h1 h2 h3 fun hne => by obtain ⟨b, off, cs, k1, k2, k3⟩ := h4 hne; exact ⟨b, off, cs, k1, hl _ _ k2, k3⟩
  | int k n => exact .int k n
  | bool b => exact .bool b
  | str s => exact .str s
  | cst => exact .cst x
  | ub b => exact .ub b
  | nil A => exact .nil A
  | _ => simp [T.pure1] at hv

/-- Cells of a block, as values of the machine. -/
structure Cells (g : G) (cs : List T) (blk : Array Value) : Prop where
  le : cs.length ≤ blk.size
  at_ : ∀ (j : Nat) (u : T), cs[j]? = some u → ∃ x : Value, blk[j]? = some x ∧ x.oneCell' = true ∧ R g u x
theorem Cells.mono {g g' : G} {cs : List T} {blk : Array Value} (h : Cells g cs blk) (hl : g.le g') : Cells g' cs blk :=
  ⟨h.le, fun j u hj => by obtain ⟨x, h1, h2, h3⟩ := h.at_ j u hj; exact ⟨x, h1, h2, h3.mono hl⟩⟩
theorem Cells.pure {g g' : G} {cs : List T} {blk : Array Value} (h : Cells g cs blk) (hp : ∀ u ∈ cs, u.pure1 = true) (hl : ∀ b cs, g.ro b cs → g'.ro b cs) : Cells g' cs blk :=
  ⟨h.le, fun j u hj => by obtain ⟨x, h1, h2, h3⟩ := h.at_ j u hj; exact ⟨x, h1, h2, h3.pure (hp u (List.mem_of_getElem? hj)) hl⟩⟩

/-- Cells of a block that is only read: of some of them nothing may be said. -/
structure CellsR (g : G) (cs : List T) (blk : Array Value) : Prop where
  le : cs.length ≤ blk.size
  at_ : ∀ (j : Nat) (u : T), cs[j]? = some u → u.pure1 = true → ∃ x : Value, blk[j]? = some x ∧ x.oneCell' = true ∧ R g u x
theorem Cells.toR {g : G} {cs : List T} {blk : Array Value} (h : Cells g cs blk) : CellsR g cs blk := ⟨h.le, fun j u hj _ => h.at_ j u hj⟩
theorem CellsR.mono {g g' : G} {cs : List T} {blk : Array Value} (h : CellsR g cs blk) (hl : g.le g') : CellsR g' cs blk :=
  ⟨h.le, fun j u hj hp => by obtain ⟨x, h1, h2, h3⟩ := h.at_ j u hj hp; exact ⟨x, h1, h2, h3.mono hl⟩⟩
theorem CellsR.pure {g g' : G} {cs : List T} {blk : Array Value} (h : CellsR g cs blk) (hl : ∀ b cs, g.ro b cs → g'.ro b cs) : CellsR g' cs blk :=
  ⟨h.le, fun j u hj hp => by obtain ⟨x, h1, h2, h3⟩ := h.at_ j u hj hp; exact ⟨x, h1, h2, h3.pure hp hl⟩⟩

def obCells : Ob → List T
  | .cells cs => cs
  | .arr _ e l => encs e l
def obVer : Ob → Nat
  | .cells _ => 0
  | .arr ver _ _ => ver
def isArr : Ob → Bool
  | .cells _ => false
  | .arr .. => true
/-- The block of an object (an array without room has none). -/
def obBlk (g : G) (k : Nat) (o : Ob) : Option Nat := match g.ob k (obVer o) with
  | some oi => if isArr o = true ∧ oi.cap = 0 then none else some oi.b
  | none => none
def Own (g : G) (st : St) (b : Nat) : Prop := ∃ k o, st[k]? = some (some o) ∧ obBlk g k o = some b
/-- How long an array is, and what room it has. -/
def obFits (o : Ob) (oi : OI) : Prop := match o with
  | .cells _ => True
  | .arr _ _ l => oi.len = l.length ∧ oi.len ≤ oi.cap ∧ oi.cap ≤ maxLen
def obWide (o : Ob) (oi : OI) (m : Nat) : Prop := match o with
  | .cells _ => True
  | .arr _ e _ => oi.cap * sz e ≤ m
/-- What an object's block holds. -/
def obRow (g : G) (w : World) (o : Ob) (oi : OI) : Prop := (isArr o = true ∧ oi.cap = 0) ∨ ((∀ cs0, ¬ g.ro oi.b cs0) ∧ ∃ (blk : Array Value) (E : TypeId) (fr : Nat × Nat), w.heap[oi.b]? = some (.cells blk E fr) ∧ (∀ q, q < blk.size → ¬ (fr.1 ≤ q ∧ q < fr.2)) ∧
  Cells g (obCells o) blk ∧ obWide o oi blk.size)

structure Good (g : G) (st : St) (w : World) : Prop where
  ro : ∀ b cs, g.ro b cs → ∃ (blk : Array Value) (E : TypeId) (fr : Nat × Nat), w.heap[b]? = some (.cells blk E fr) ∧ CellsR g cs blk
  obj : ∀ k o, st[k]? = some (some o) → ∃ oi, g.ob k (obVer o) = some oi ∧ obFits o oi ∧ obRow g w o oi
  inj : ∀ k k' o o' b, st[k]? = some (some o) → st[k']? = some (some o') → obBlk g k o = some b → obBlk g k' o' = some b → k = k'
  old : ∀ k v oi, g.ob k v = some oi → k < st.length ∧ ∀ o, st[k]? = some (some o) → v ≤ obVer o

/-- What stays said of the first objects. -/
def Kept (g : G) (st : St) (g' : G) (st' : St) (k : Nat) : Prop := ∀ o, st[k]? = some (some o) → match o with
  | .cells cs => ∃ cs', st'[k]? = some (some (.cells cs')) ∧ cs'.length = cs.length ∧ g'.ob k 0 = g.ob k 0
  | .arr _ e _ => ∃ ver' l', st'[k]? = some (some (.arr ver' e l'))
/-- The first c arrays that nothing was appended to are what they were. -/
def Fixd (g : G) (st : St) (g' : G) (st' : St) (k : Nat) : Prop := ∀ ver e l, st[k]? = some (some (.arr ver e l)) → ∃ ver' l', st'[k]? = some (some (.arr ver' e l')) ∧ (ver' = 0 → ver = 0 ∧ g'.ob k 0 = g.ob k 0)
/-- Of the first b objects something stays said; of the first c more. -/
structure B0 where
  b : Nat
  c : Nat
structure Step (b0 : B0) (g : G) (st : St) (w : World) (g' : G) (st' : St) (w' : World) : Prop where
  os : w'.os = w.os
  tape : w'.tape = w.tape
  output : w'.output = w.output
  size : w.heap.size ≤ w'.heap.size
  block : ∀ b, b < w.heap.size → ¬ Own g st b → w'.heap[b]? = w.heap[b]?
  ro : ∀ b cs, g.ro b cs → g'.ro b cs
  own : ∀ b, Own g' st' b → Own g st b ∨ w.heap.size ≤ b
  new : ∀ b cs, g'.ro b cs → g.ro b cs ∨ Own g st b ∨ w.heap.size ≤ b
  kept : ∀ k, k < b0.b → Kept g st g' st' k
  fixd : ∀ k, k < b0.c → Fixd g st g' st' k

section
variable {g g' g'' : G} {st st' st'' : St} {w w' w'' : World} {b0 : B0}
theorem Kept.refl {k : Nat} : Kept g st g st k := fun o ho => by
  cases o with
  | cells cs => exact ⟨cs, ho, rfl, rfl⟩
  | arr ver e l => exact ⟨ver, l, ho⟩
theorem Fixd.refl {k : Nat} : Fixd g st g st k := fun ver e l h => ⟨ver, l, h, fun e => ⟨e, rfl⟩⟩
theorem Step.refl : Step b0 g st w g st w :=
  ⟨rfl, rfl, rfl, Nat.le_refl _, fun _ _ _ => rfl, fun _ _ h => h, fun _ h => .inl h, fun _ _ h => .inl h, fun _ _ => Kept.refl, fun _ _ => Fixd.refl⟩
theorem Step.trans (h : Step b0 g st w g' st' w') (k : Step b0 g' st' w' g'' st'' w'') : Step b0 g st w g'' st'' w'' := by
  refine ⟨k.os.trans h.os, k.tape.trans h.tape, k.output.trans h.output, Nat.le_trans h.size k.size, fun b hb hn => ?_, fun b cs e => k.ro b cs (h.ro b cs e), fun b hb => ?_, fun b cs e => ?_, fun i hi o ho => ?_, fun i hi ver e l ho => ?_⟩
  · refine (k.block b (Nat.lt_of_lt_of_le hb h.size) fun ho => ?_).trans (h.block b hb hn)
    rcases h.own b ho with h1 | h1
    · exact hn h1
    · omega
  · rcases k.own b hb with h1 | h1
    · exact h.own b h1
    · exact .inr (Nat.le_trans h.size h1)
  · rcases k.new b cs e with h1 | h1 | h1
    · exact h.new b cs h1
    · rcases h.own b h1 with h2 | h2
      · exact .inr (.inl h2)
      · exact .inr (.inr h2)
    · exact .inr (.inr (Nat.le_trans h.size h1))
  · have h1 := h.kept i hi o ho
    cases o with
    | cells cs =>
      obtain ⟨cs', a1, a2, a3⟩ := h1
      obtain ⟨cs'', b1, b2, b3⟩ := k.kept i hi _ a1
      exact ⟨cs'', b1, b2.trans a2, b3.trans a3⟩
    | arr ver e l =>
      obtain ⟨ver', l', a1⟩ := h1
      exact k.kept i hi _ a1
  · obtain ⟨ver', l', a1, a2⟩ := h.fixd i hi ver e l ho
    obtain ⟨ver'', l'', b1, b2⟩ := k.fixd i hi _ _ _ a1
    refine ⟨ver'', l'', b1, fun e0 => ?_⟩
    obtain ⟨c1, c2⟩ := b2 e0
    obtain ⟨d1, d2⟩ := a2 c1
    exact ⟨d1, c2.trans d2⟩
theorem Step.le {c0 : B0} (h : Step b0 g st w g' st' w') (hb : c0.b ≤ b0.b) (hc : c0.c ≤ b0.c) : Step c0 g st w g' st' w' :=
  ⟨h.os, h.tape, h.output, h.size, h.block, h.ro, h.own, h.new, fun k hk => h.kept k (Nat.lt_of_lt_of_le hk hb), fun k hk => h.fixd k (Nat.lt_of_lt_of_le hk hc)⟩

theorem Good.lt_ro (hg : Good g st w) {b : Nat} {cs : List T} (h : g.ro b cs) : b < w.heap.size := by
  obtain ⟨blk, E, fr, h1, _⟩ := hg.ro b cs h
  exact (Array.getElem?_eq_some_iff.1 h1).1
theorem Good.own (hg : Good g st w) {k : Nat} {o : Ob} {b : Nat} (h : st[k]? = some (some o)) (hb : obBlk g k o = some b) : ∃ oi, g.ob k (obVer o) = some oi ∧ oi.b = b ∧ obFits o oi ∧ (∀ cs0, ¬ g.ro b cs0) ∧ ∃ (blk : Array Value) (E : TypeId) (fr : Nat × Nat), w.heap[b]? = some (.cells blk E fr) ∧ (∀ q, q < blk.size → ¬ (fr.1 ≤ q ∧ q < fr.2)) ∧
    Cells g (obCells o) blk ∧ obWide o oi blk.size := by
  obtain ⟨oi, h1, h2, h3⟩ := hg.obj k o h
  unfold obBlk at hb
  rw [h1] at hb
  simp only at hb
  split at hb
  · cases hb
  · rename_i hn
    injection hb with hb
    subst hb
    rcases h3 with h3 | h3
    · exact absurd h3 hn
    · exact ⟨oi, h1, rfl, h2, h3.1, h3.2⟩
theorem Good.lt_own (hg : Good g st w) {b : Nat} (h : Own g st b) : b < w.heap.size := by
  obtain ⟨k, o, h1, h2⟩ := h
  obtain ⟨_, _, _, _, _, blk, E, fr, h3, _⟩ := hg.own h1 h2
  exact (Array.getElem?_eq_some_iff.1 h3).1
theorem Good.own_ro (hg : Good g st w) {b : Nat} {cs : List T} (h : Own g st b) (hr : g.ro b cs) : False := by
  obtain ⟨k, o, h1, h2⟩ := h
  obtain ⟨_, _, _, _, h3, _⟩ := hg.own h1 h2
  exact h3 _ hr

/-- The temporaries. -/
structure RelT (g : G) (n : Nat) (t : Tm) (a : Act) : Prop where
  size : a.tmps.size = n
  defers : a.defers = []
  val : ∀ i, R g (get t i) (a.tmps.getD i Go.undef)
theorem RelT.mono {n : Nat} {t : Tm} {a : Act} (h : RelT g n t a) (hl : g.le g') : RelT g' n t a := ⟨h.size, h.defers, fun i => (h.val i).mono hl⟩
theorem RelT.put {n d : Nat} {t : Tm} {a : Act} {v : T} {x : Value} (h : RelT g n t a) (hd : d < n) (hv : R g v x) : RelT g n (put t d v) (a.put (some d) x) := by
  refine ⟨by simp [Act.put, h.size], h.defers, fun i => ?_⟩
  rw [get_put]
  by_cases e : i = d
  · subst e
    simp only [if_true, Act.put, Array.getD_eq_getD_getElem?, Array.getElem?_setIfInBounds]
    rw [if_pos (by rw [h.size]; exact hd)]
    exact hv
  · simp only [if_neg e, Act.put, Array.getD_eq_getD_getElem?, Array.getElem?_setIfInBounds]
    rw [if_neg (Ne.symm e)]
    simpa using h.val i

/-- A new read-only block. -/
theorem good_ro (hg : Good g st w) {cs : List T} {blk : Array Value} {E : TypeId} (hc : Cells g cs blk) (hw : w'.heap = w.heap.push (.cells blk E)) (hos : w'.os = w.os) (htape : w'.tape = w.tape) (hout : w'.output = w.output) :
    Good { g with ro := fun b cs0 => (b = w.heap.size ∧ cs0 = cs) ∨ g.ro b cs0 } st w' ∧ (∀ b0, Step b0 g st w { g with ro := fun b cs0 => (b = w.heap.size ∧ cs0 = cs) ∨ g.ro b cs0 } st w') ∧ g.le { g with ro := fun b cs0 => (b = w.heap.size ∧ cs0 = cs) ∨ g.ro b cs0 } := by
  have hro : ∀ b cs', g.ro b cs' → (b = w.heap.size ∧ cs' = cs) ∨ g.ro b cs' := fun b cs' h => .inr h
  have hle : g.le { g with ro := fun b cs0 => (b = w.heap.size ∧ cs0 = cs) ∨ g.ro b cs0 } := ⟨hro, fun _ _ _ h => h⟩
  have hblk : ∀ b, b < w.heap.size → w'.heap[b]? = w.heap[b]? := fun b hb => by rw [hw]; simp [Array.getElem?_push, Nat.ne_of_lt hb]
  have hsz : w.heap.size ≤ w'.heap.size := by rw [hw]; simp
  refine ⟨⟨fun b cs' h => ?_, fun k o h => ?_, fun k k' o o' b h1 h2 h3 h4 => hg.inj k k' o o' b h1 h2 h3 h4, hg.old⟩, fun b0 => ⟨hos, htape, hout, hsz, fun b hb _ => hblk b hb, hro, fun b h => .inl h, fun b cs' h => ?_, fun k _ => Kept.refl, fun k _ => Fixd.refl⟩, hle⟩
  · rcases h with ⟨rfl, rfl⟩ | h
    · exact ⟨blk, E, (0, 0), by rw [hw]; simp, (hc.mono hle).toR⟩
    · obtain ⟨blk', E', fr, h1, h2⟩ := hg.ro b cs' h
      exact ⟨blk', E', fr, by rw [hblk b (hg.lt_ro h)]; exact h1, h2.mono hle⟩
  · obtain ⟨oi, h1, h2, h3⟩ := hg.obj k o h
    refine ⟨oi, h1, h2, ?_⟩
    rcases h3 with h3 | ⟨h3, blk', E', fr, h4, h5, h6, h7⟩
    · exact .inl h3
    · have hlt := (Array.getElem?_eq_some_iff.1 h4).1
      exact .inr ⟨fun cs0 h0 => by
        rcases h0 with ⟨h0, _⟩ | h0
        · omega
        · exact h3 _ h0, blk', E', fr, by rw [hblk _ hlt]; exact h4, h5, h6.mono hle, h7⟩
  · rcases h with ⟨h, _⟩ | h
    · exact .inr (.inr (by omega))
    · exact .inl h

def G.set (g : G) (k v : Nat) (oi : OI) : G := { g with ob := fun i u => if i = k ∧ u = v then some oi else g.ob i u }
def keptOb (g : G) (k : Nat) (oi : OI) (o' : Ob) : Ob → Prop
  | .cells cs => ∃ cs', o' = .cells cs' ∧ cs'.length = cs.length ∧ g.ob k 0 = some oi
  | .arr _ e _ => ∃ ver' l', o' = .arr ver' e l'
theorem set_hid {g : G} {st : St} {k v : Nat} {oi : OI} (h : (∃ o, st[k]? = some (some o)) ∨ k = st.length) : ∀ (k' u : Nat), st[k']? = some none → (g.set k v oi).ob k' u = g.ob k' u := by
  intro k' u hk
  simp only [G.set]
  rw [if_neg]
  rintro ⟨rfl, _⟩
  rcases h with ⟨o, h⟩ | h
  · rw [h] at hk; cases hk
  · have := (List.getElem?_eq_some_iff.1 hk).1; omega
/-- An object is made, or turned: in place, or in a block of its own. -/
theorem good_put (hg : Good g st w) {k v : Nat} {o' : Ob} {oi : OI} (hst : ∀ i, st'[i]? = if i = k then some (some o') else st[i]?) (hk : k ≤ st.length) (hl : st.length ≤ st'.length) (hv : obVer o' = v)
    (hnew : g.ob k v = none ∨ g.ob k v = some oi) (hver : ∀ u oi, g.ob k u = some oi → u ≤ v) (hfit : obFits o' oi)
    (hb : ¬ (isArr o' = true ∧ oi.cap = 0) → w.heap.size ≤ oi.b ∨ ∃ o, st[k]? = some (some o) ∧ obBlk g k o = some oi.b)
    (hos : w'.os = w.os) (htape : w'.tape = w.tape) (hout : w'.output = w.output) (hsz : w.heap.size ≤ w'.heap.size)
    (hfr : ∀ b, b < w.heap.size → (∀ o, st[k]? = some (some o) → obBlk g k o ≠ some b) → w'.heap[b]? = w.heap[b]?)
    (hrow : ¬ (isArr o' = true ∧ oi.cap = 0) → ∃ (blk : Array Value) (E : TypeId) (fr : Nat × Nat), w'.heap[oi.b]? = some (.cells blk E fr) ∧ (∀ q, q < blk.size → ¬ (fr.1 ≤ q ∧ q < fr.2)) ∧
      Cells g (obCells o') blk ∧ obWide o' oi blk.size)
    (hkept : ∀ o, st[k]? = some (some o) → keptOb g k oi o' o) :
    Good (g.set k v oi) st' w' ∧ (∀ b0, Step b0 g st w (g.set k v oi) st' w') ∧ g.le (g.set k v oi) := by
  have hle : g.le (g.set k v oi) := ⟨fun _ _ h => h, fun i u oi' h => by
    simp only [G.set]
    split
    · rename_i e
      obtain ⟨rfl, rfl⟩ := e
      rcases hnew with e | e
      · rw [e] at h; cases h
      · rw [← e]; exact h
    · exact h⟩
  have hob : (g.set k v oi).ob k v = some oi := by simp [G.set]
  have hother : ∀ i u, i ≠ k → (g.set k v oi).ob i u = g.ob i u := fun i u h => by simp [G.set, h]
  have hblkk : obBlk (g.set k v oi) k o' = if isArr o' = true ∧ oi.cap = 0 then none else some oi.b := by
    unfold obBlk; rw [hv, hob]
  have hblko : ∀ i o, i ≠ k → obBlk (g.set k v oi) i o = obBlk g i o := fun i o h => by unfold obBlk; rw [hother i _ h]
  have hS : ∀ b, b < w.heap.size → ¬ (∃ o, st[k]? = some (some o) ∧ obBlk g k o = some b) → w'.heap[b]? = w.heap[b]? := fun b hb' hn => hfr b hb' fun o h1 h2 => hn ⟨o, h1, h2⟩
  have hown : ∀ b, Own (g.set k v oi) st' b → Own g st b ∨ w.heap.size ≤ b := by
    rintro b ⟨i, o, h1, h2⟩
    rw [hst] at h1
    split at h1
    · rename_i e
      subst e
      simp only [Option.some.injEq] at h1
      subst h1
      rw [hblkk] at h2
      split at h2
      · cases h2
      · rename_i hn
        injection h2 with h2
        subst h2
        rcases hb hn with h3 | ⟨o, h3, h4⟩
        · exact .inr h3
        · exact .inl ⟨i, o, h3, h4⟩
    · rename_i e
      rw [hblko i o e] at h2
      exact .inl ⟨i, o, h1, h2⟩
  refine ⟨⟨fun b cs h => ?_, fun i o h => ?_, fun i i' o1 o2 b h1 h2 h3 h4 => ?_, fun i u oi' h => ?_⟩, fun b0 => ⟨hos, htape, hout, hsz, fun b hb' hn => hS b hb' fun ⟨o, h1, h2⟩ => hn ⟨k, o, h1, h2⟩, fun _ _ h => h, hown, fun _ _ h => .inl h, fun i _ o ho => ?_, fun i _ ver e l ho => ?_⟩, hle⟩
  · obtain ⟨blk, E, fr, h1, h2⟩ := hg.ro b cs h
    refine ⟨blk, E, fr, ?_, h2.mono hle⟩
    rw [hS b (hg.lt_ro h) fun ⟨o, h3, h4⟩ => hg.own_ro ⟨k, o, h3, h4⟩ h]
    exact h1
  · rw [hst] at h
    split at h
    · rename_i e
      subst e
      simp only [Option.some.injEq] at h
      subst h
      refine ⟨oi, by rw [hv]; exact hob, hfit, ?_⟩
      by_cases hn : isArr o' = true ∧ oi.cap = 0
      · exact .inl hn
      · obtain ⟨blk, E, fr, h1, h2, h3, h4⟩ := hrow hn
        refine .inr ⟨?_, blk, E, fr, h1, h2, h3.mono hle, h4⟩
        show (∀ cs0, ¬ g.ro oi.b cs0)
        rcases hb hn with h5 | ⟨o, h5, h6⟩
        · intro cs hr
          have := hg.lt_ro hr; omega
        · intro cs hr
          exact (hg.own_ro ⟨i, o, h5, h6⟩ hr).elim
    · rename_i e
      obtain ⟨oi', h1, h2, h3⟩ := hg.obj i o h
      refine ⟨oi', by rw [hother i _ e]; exact h1, h2, ?_⟩
      rcases h3 with h3 | ⟨h3, blk, E, fr, h4, h5, h6, h7⟩
      · exact .inl h3
      · by_cases hn : isArr o = true ∧ oi'.cap = 0
        · exact .inl hn
        have hlt := (Array.getElem?_eq_some_iff.1 h4).1
        refine .inr ⟨h3, blk, E, fr, ?_, h5, h6.mono hle, h7⟩
        rw [hS _ hlt fun ⟨o2, h8, h9⟩ => e (hg.inj i k o o2 oi'.b h h8 (by unfold obBlk; rw [h1]; simp only; rw [if_neg hn]) h9)]
        exact h4
  · rw [hst] at h1 h2
    by_cases e1 : i = k <;> by_cases e2 : i' = k
    · rw [e1, e2]
    · exfalso
      subst e1
      simp only [if_true, Option.some.injEq] at h1
      subst h1
      rw [if_neg e2] at h2
      rw [hblko i' o2 e2] at h4
      rw [hblkk] at h3
      split at h3
      · cases h3
      · rename_i hn
        injection h3 with h3
        subst h3
        rcases hb hn with h5 | ⟨o, h5, h6⟩
        · have := hg.lt_own ⟨i', o2, h2, h4⟩; omega
        · exact e2 (hg.inj i' i o2 o _ h2 h5 h4 h6)
    · exfalso
      subst e2
      simp only [if_true, Option.some.injEq] at h2
      subst h2
      rw [if_neg e1] at h1
      rw [hblko i o1 e1] at h3
      rw [hblkk] at h4
      split at h4
      · cases h4
      · rename_i hn
        injection h4 with h4
        subst h4
        rcases hb hn with h5 | ⟨o, h5, h6⟩
        · have := hg.lt_own ⟨i, o1, h1, h3⟩; omega
        · exact e1 (hg.inj i i' o1 o _ h1 h5 h3 h6)
    · rw [if_neg e1] at h1
      rw [if_neg e2] at h2
      rw [hblko i o1 e1] at h3
      rw [hblko i' o2 e2] at h4
      exact hg.inj i i' o1 o2 b h1 h2 h3 h4
  · have hkl : k < st'.length := by
      have := hst k
      rw [if_pos rfl] at this
      exact (List.getElem?_eq_some_iff.1 this).1
    by_cases e : i = k
    · subst e
      refine ⟨hkl, fun o ho => ?_⟩
      rw [hst, if_pos rfl] at ho
      simp only [Option.some.injEq] at ho
      subst ho
      rw [hv]
      simp only [G.set] at h
      split at h
      · rename_i e2; omega
      · exact hver u oi' h
    · rw [hother i u e] at h
      obtain ⟨h1, h2⟩ := hg.old i u oi' h
      refine ⟨by omega, fun o ho => ?_⟩
      rw [hst, if_neg e] at ho
      exact h2 o ho
  · by_cases e : i = k
    · subst e
      have := hkept o ho
      cases o with
      | cells cs =>
        obtain ⟨cs', rfl, h1, h2⟩ := this
        exact ⟨cs', by rw [hst, if_pos rfl], h1, by rw [h2]; simp only [obVer] at hv; subst hv; exact hob⟩
      | arr ver e l =>
        obtain ⟨ver', l', rfl⟩ := this
        exact ⟨ver', l', by rw [hst, if_pos rfl]⟩
    · cases o with
      | cells cs => exact ⟨cs, by rw [hst, if_neg e]; exact ho, rfl, hother i 0 e⟩
      | arr ver e' l => exact ⟨ver, l, by rw [hst, if_neg e]; exact ho⟩
  · by_cases e1 : i = k
    · subst e1
      obtain ⟨ver', l', rfl⟩ : ∃ ver' l', o' = .arr ver' e l' := hkept _ ho
      refine ⟨ver', l', by rw [hst, if_pos rfl], fun e0 => ?_⟩
      simp only [obVer] at hv
      obtain ⟨oi0, h1, _⟩ := hg.obj i _ ho
      simp only [obVer] at h1
      have := hver _ _ h1
      have h0 : ver = 0 := by omega
      subst h0
      refine ⟨rfl, ?_⟩
      have hv0 : v = 0 := by omega
      subst hv0
      rcases hnew with hn | hn
      · rw [hn] at h1; cases h1
      · rw [hob, hn]
    · exact ⟨ver, l, by rw [hst, if_neg e1]; exact ho, fun e0 => ⟨e0, hother i 0 e1⟩⟩
/-- Nothing but the count of what was drawn has turned. -/
theorem good_drew (hg : Good g st w) {n : Nat} : Good g st { w with drawn := n } ∧ ∀ b0, Step b0 g st w g st { w with drawn := n } :=
  ⟨⟨hg.ro, hg.obj, hg.inj, hg.old⟩, fun _ => ⟨rfl, rfl, rfl, Nat.le_refl _, fun _ _ _ => rfl, fun _ _ h => h, fun _ h => .inl h, fun _ _ h => .inl h, fun _ _ => Kept.refl, fun _ _ => Fixd.refl⟩⟩
end
end Go.Proofs.Ythjikjhddddplaa
