/-
  Proto: what its functions yield, in plain terms.
-/
import Derived.Test.YtoclmkbjgmgekaaDoorX7
namespace Go.Proofs.YtoclmkbjgmgekaaDoor
set_option linter.unusedVariables false
set_option linter.unusedSimpArgs false
set_option linter.unusedSectionVars false
open Go.RowKit
/-- The bytes of a digest. -/
def digL (d : Dig) : List Int := [d.b0, d.b1, d.b2, d.b3, d.b4, d.b5, d.b6, d.b7, d.b8, d.b9, d.b10, d.b11, d.b12, d.b13, d.b14, d.b15, d.b16, d.b17, d.b18, d.b19, d.b20, d.b21, d.b22, d.b23, d.b24, d.b25, d.b26, d.b27, d.b28, d.b29, d.b30, d.b31]
def dstr (d : Dig) : ByteArray := bStr (digL d)
def digEq (a b : Dig) : Bool := decide (a.b0 = b.b0) && (decide (a.b1 = b.b1) && (decide (a.b2 = b.b2) && (decide (a.b3 = b.b3) && (decide (a.b4 = b.b4) && (decide (a.b5 = b.b5) && (decide (a.b6 = b.b6) && (decide (a.b7 = b.b7) && (decide (a.b8 = b.b8) && (decide (a.b9 = b.b9) && (decide (a.b10 = b.b10) && (decide (a.b11 = b.b11) && (decide (a.b12 = b.b12) && (decide (a.b13 = b.b13) && (decide (a.b14 = b.b14) && (decide (a.b15 = b.b15) && (decide (a.b16 = b.b16) && (decide (a.b17 = b.b17) && (decide (a.b18 = b.b18) && (decide (a.b19 = b.b19) && (decide (a.b20 = b.b20) && (decide (a.b21 = b.b21) && (decide (a.b22 = b.b22) && (decide (a.b23 = b.b23) && (decide (a.b24 = b.b24) && (decide (a.b25 = b.b25) && (decide (a.b26 = b.b26) && (decide (a.b27 = b.b27) && (decide (a.b28 = b.b28) && (decide (a.b29 = b.b29) && (decide (a.b30 = b.b30) && (decide (a.b31 = b.b31) && (true))))))))))))))))))))))))))))))))
def digEqB (a b : Dig) : Bool := decide (digL a = digL b)
def truB (b : Bool) : ByteArray := if b = true then ⟨#[49]⟩ else ⟨#[48]⟩
def atomX (s : ByteArray) : Sx := ⟨false, s, []⟩
def listX (l : List Sx) : Sx := ⟨true, ⟨#[]⟩, l⟩
def numX (n : Int) : Sx := (intB n).1
def digsX (l : List Dig) : List Sx := l.map fun d => atomX (dstr d)
def atomsX (l : List ByteArray) : List Sx := l.map atomX
def spanX (r : Rng) : Sx := listX [atomX (dstr r.low), atomX (dstr r.high), atomX (truB r.listed), numX r.count, atomX (dstr r.print), listX (digsX r.ids)]
def rangesX (l : List Rng) : List Sx := l.map spanX
def sigX (g : Sgn) : Sx := listX [numX g.index, listX (digsX g.revealed), listX (digsX g.others), listX (digsX g.path)]
def wordsL : List Ment := [⟨1, ⟨#[114, 97, 110, 103, 101, 115]⟩⟩, ⟨2, ⟨#[119, 97, 110, 116]⟩⟩, ⟨3, ⟨#[112, 97, 116, 99, 104, 101, 115]⟩⟩, ⟨4, ⟨#[100, 111, 110, 101]⟩⟩, ⟨5, ⟨#[112, 117, 115, 104]⟩⟩, ⟨6, ⟨#[114, 101, 112, 108, 121]⟩⟩, ⟨7, ⟨#[112, 97, 116, 104, 115]⟩⟩]
def words8 : List ByteArray := [⟨#[]⟩, ⟨#[114, 97, 110, 103, 101, 115]⟩, ⟨#[119, 97, 110, 116]⟩, ⟨#[112, 97, 116, 99, 104, 101, 115]⟩, ⟨#[100, 111, 110, 101]⟩, ⟨#[112, 117, 115, 104]⟩, ⟨#[114, 101, 112, 108, 121]⟩, ⟨#[112, 97, 116, 104, 115]⟩]
def wordN (k : Int) : ByteArray := words8.getD k.toNat ⟨#[]⟩
def fieldsX (m : Msg) : List Sx := if m.kind = 1 then rangesX m.ranges else if m.kind = 2 then digsX m.ids else if m.kind = 3 then atomsX m.patches
  else if m.kind = 5 then [atomX m.name, listX (digsX m.ids), sigX m.sig] else if m.kind = 6 then [numX m.code, atomX m.text] else if m.kind = 7 then atomsX m.paths else []
def sexpX (m : Msg) : Sx := listX (atomX (wordN m.kind) :: fieldsX m)
def inB (n : Int) : Bool := decide (0 ≤ n ∧ n ≤ 1099511627776)
def unsigned (g : Sgn) : Bool := decide (g.index = 0) && (decide (g.revealed.length = 0) && (decide (g.others.length = 0) && decide (g.path.length = 0)))
def numbered (m : Msg) : Bool := m.ranges.all (fun r => inB r.count) && (inB m.sig.index && decide (0 ≤ m.code ∧ m.code ≤ 27))
def sgn0 : Sgn := ⟨0, [], [], []⟩
/-- The message without its kind and what belongs to it. -/
def bare (m : Msg) : Msg := if m.kind = 1 then { m with ranges := [], kind := 0 } else if m.kind = 2 then { m with ids := [], kind := 0 } else if m.kind = 3 then { m with patches := [], kind := 0 }
  else if m.kind = 5 then { m with name := ⟨#[]⟩, ids := [], sig := sgn0, kind := 0 } else if m.kind = 6 then { m with code := 0, text := ⟨#[]⟩, kind := 0 } else if m.kind = 7 then { m with paths := [], kind := 0 } else { m with kind := 0 }
def emptyB (m : Msg) : Bool := decide (m.name = ⟨#[]⟩) && decide (m.text = ⟨#[]⟩) && decide (m.code = 0) && decide (m.ids.length = 0) && decide (m.ranges.length = 0) && decide (m.patches.length = 0) && decide (m.paths.length = 0) && unsigned m.sig
def foreign (m : Msg) : Bool := !emptyB (bare m)
/-- Check and Encode, of both sides. -/
def chk (m : Msg) : ByteArray × Int := if m.kind < 1 ∨ 7 < m.kind then (⟨#[]⟩, 8) else if foreign m = true then (⟨#[]⟩, 1) else if numbered m = false then (⟨#[]⟩, 2)
  else if (enT (sexpX m)).2 ≠ 0 ∨ 65536 < (enT (sexpX m)).1.size then (⟨#[]⟩, 4) else ((enT (sexpX m)).1, 0)
def greatS (l : List ByteArray) : Bool := decide (20 < l.length) || decide (2000 < (l.map ByteArray.size).sum)
def greatB (m : Msg) : Bool := (m.ranges.take 9).any (fun r => decide (8 < r.ids.length)) || decide (8 < m.ranges.length) || decide (12 < m.ids.length) || decide (1000 < m.name.size + m.text.size) || decide (20 < m.sig.revealed.length + m.sig.others.length + m.sig.path.length) || greatS m.patches || greatS m.paths

theorem digEq_eq (a b : Dig) : digEq a b = decide (a = b) := by
  have : decide (a = b) = decide (digL a = digL b) := by
    rw [decide_eq_decide]
    refine ⟨fun h => by rw [h], fun h => ?_⟩
    obtain ⟨a0, a1, a2, a3, a4, a5, a6, a7, a8, a9, a10, a11, a12, a13, a14, a15, a16, a17, a18, a19, a20, a21, a22, a23, a24, a25, a26, a27, a28, a29, a30, a31⟩ := a
    obtain ⟨b0, b1, b2, b3, b4, b5, b6, b7, b8, b9, b10, b11, b12, b13, b14, b15, b16, b17, b18, b19, b20, b21, b22, b23, b24, b25, b26, b27, b28, b29, b30, b31⟩ := b
    simp only [digL, List.cons.injEq, and_true] at h
    simpa only [Dig.mk.injEq] using h
  rw [this]
  simp only [digEq, digL, List.cons.injEq, and_true, Bool.and_true, Bool.decide_and]
/-! ### Loops -/
theorem LoopW.count {γ : Type} {body : (γ → Prop) → γ → Prop} (N : Nat) (S : Nat → γ) (P : Nat → Prop) (h : ∀ n, n ≤ N → P n → ∀ W : γ → Prop, (n < N → P (n + 1) → W (S (n + 1))) → body W (S n)) (h0 : P 0) : LoopW body (S 0) := by
  have key : ∀ k n, n + k = N → P n → loopN body (k + 1) (S n) := by
    intro k
    induction k with
    | zero => intro n hn hp; exact h n (by omega) hp _ fun hlt => by omega
    | succ k ih => intro n hn hp; exact h n (by omega) hp _ fun hlt hp' => ih (n + 1) (by omega) hp'
  exact ⟨N + 1, key N 0 (by omega) h0⟩
theorem LoopW.countTo {γ : Type} {body : (γ → Prop) → γ → Prop} {g : γ} (N : Nat) (S : Nat → γ) (P : Nat → Prop) (hg : g = S 0) (h : ∀ n, n ≤ N → P n → ∀ W : γ → Prop, (n < N → P (n + 1) → W (S (n + 1))) → body W (S n)) (h0 : P 0) : LoopW body g := by
  rw [hg]; exact LoopW.count N S P h h0
theorem take_snoc {α : Type} {l : List α} {n : Nat} (h : n < l.length) : l.take (n + 1) = l.take n ++ [l[n]] := by
  simp
/-- A loop that maps a list. -/
theorem LoopW.map {α β γ : Type} {body : (γ → Prop) → γ → Prop} {g : γ} (l : List α) (f : α → β) (S : Int → List β → γ) (hr : l.length ≤ 4294967296) (hg : g = S 0 [])
    (step : ∀ (W : γ → Prop) (n : Nat) (h : n < l.length) (out : List β), out.length = n → W (S (IntKind.i64.wrap ((n : Int) + 1)) (out ++ [f l[n]])) → body W (S n out))
    (last : ∀ W : γ → Prop, body W (S l.length (l.map f))) : LoopW body g := by
  refine LoopW.countTo l.length (fun n => S n ((l.take n).map f)) (fun _ => True) (by simpa using hg) (fun n hn _ W hW => ?_) trivial
  by_cases hlt : n < l.length
  · refine step W n hlt _ (by simp; omega) ?_
    have := hW hlt trivial
    rw [wrapS hlt hr]
    rwa [take_snoc hlt, List.map_append] at this
  · have : n = l.length := by omega
    subst this
    simp only [List.take_length]
    exact last W
theorem lt_true {n N : Nat} (h : n < N) : decide ((n : Int) < (N : Int)) = true := by simp; omega
theorem lt_false {N : Nat} : decide ((N : Int) < (N : Int)) = false := by simp
end Go.Proofs.YtoclmkbjgmgekaaDoor
