/-
  Arq: what its functions yield, in plain terms, 2.
-/
import Derived.Test.YtofjpelbjehddaaFB
namespace Go.Proofs.Ytofjpelbjehddaa
set_option linter.unusedVariables false
set_option linter.unusedSimpArgs false
set_option linter.unusedSectionVars false
open Go.RowKit

structure Snd where
  base : Int
  window : Int
  data : List ByteArray
  sent : List Int
  deriving DecidableEq
structure Rcv where
  next : Int
  have_ : List Bool
  data : List ByteArray
  deriving DecidableEq
/-- A loop over two lists of one length that asks whether they are the same. -/
theorem same_loop {α γ : Type} [DecidableEq α] {a b : List α} {S : Int → γ} {body : (γ → Prop) → γ → Prop} {A B : Prop} (hl : a.length = b.length) (hr : a.length ≤ 4294967296)
    (hb : ∀ (W : γ → Prop) (i : Int), body W (S i) = bif decide (i < (a.length : Int)) then At a i fun u => At b i fun v => bif !decide (u = v) then A else W (S (IntKind.i64.wrap (i + 1))) else B) (hA : a ≠ b → A) (hB : a = b → B) : LoopW body (S 0) := by
  refine LoopW.countTo a.length (fun n => S (n : Int)) (fun n => a.take n = b.take n) rfl (fun n hn hp W hW => ?_) (by simp)
  rw [hb]
  by_cases hlt : n < a.length
  · rw [show decide ((n : Int) < (a.length : Int)) = true by simp; omega, cond_true]
    refine At_of hlt (At_of (by omega) ?_)
    by_cases he : a[n] = b[n]'(by omega)
    · rw [show (!decide (a[n] = b[n]'(by omega))) = false by simp [he], cond_false, wrapS hlt hr]
      exact hW hlt (by rw [take_snoc hlt, take_snoc (by omega), hp, he])
    · rw [show (!decide (a[n] = b[n]'(by omega))) = true by simp [he], cond_true]
      exact hA (by rintro rfl; exact he rfl)
  · rw [show decide ((n : Int) < (a.length : Int)) = false by simp; omega, cond_false]
    refine hB ?_
    rw [List.take_of_length_le (by omega), List.take_of_length_le (by omega)] at hp
    exact hp
theorem F17_is {a b : Snd} {K : Kn} (h1 : a.data.length ≤ 4294967296) (h2 : a.sent.length ≤ 4294967296) (h : K (.bool (decide (a = b))) []) : F17 (a.base, a.window, a.data, a.sent, b.base, b.window, b.data, b.sent, ()) K := by
  obtain ⟨a1, a2, a3, a4⟩ := a
  obtain ⟨b1, b2, b3, b4⟩ := b
  have ff : ∀ (hne : ¬ (a1 = b1 ∧ a2 = b2 ∧ a3 = b3 ∧ a4 = b4)), K (.bool false) [] := fun hne => by
    rwa [show decide ((⟨a1, a2, a3, a4⟩ : Snd) = ⟨b1, b2, b3, b4⟩) = false by simp only [Snd.mk.injEq]; exact decide_eq_false hne] at h
  unfold F17 F17_J2
  dsimp only [Lf.ty, prodL] at h h1 h2 ⊢
  by_cases e1 : a1 = b1
  case neg => simp only [decide_eq_false e1, Bool.not_false, cond_true]; exact ff fun hh => e1 hh.1
  by_cases e2 : a2 = b2
  case neg => simp only [decide_eq_true e1, decide_eq_false e2, Bool.not_true, Bool.not_false, cond_true, cond_false]; exact ff fun hh => e2 hh.2.1
  by_cases l3 : a3.length = b3.length
  case neg =>
    rw [show decide ((a3.length : Int) = (b3.length : Int)) = false by simp; omega]
    simp only [decide_eq_true e1, decide_eq_true e2, Bool.not_true, Bool.not_false, cond_true, cond_false]; exact ff fun hh => l3 (by rw [hh.2.2.1])
  by_cases l4 : a4.length = b4.length
  case neg =>
    rw [show decide ((a3.length : Int) = (b3.length : Int)) = true by simp; omega, show decide ((a4.length : Int) = (b4.length : Int)) = false by simp; omega]
    simp only [decide_eq_true e1, decide_eq_true e2, Bool.not_true, Bool.not_false, cond_true, cond_false]; exact ff fun hh => l4 (by rw [hh.2.2.2])
  rw [show decide ((a3.length : Int) = (b3.length : Int)) = true by simp; omega, show decide ((a4.length : Int) = (b4.length : Int)) = true by simp; omega]
  simp only [decide_eq_true e1, decide_eq_true e2, Bool.not_true, cond_false]
  unfold F17_L4
  refine same_loop (A := K (.bool false) []) (B := F17_L8 K (0, a1, a2, a3, a4, b1, b2, b3, b4, ())) (S := fun i => (i, a1, a2, a3, a4, b1, b2, b3, b4, ())) l3 h1 (fun W i => rfl) (fun hne => ff fun hh => hne hh.2.2.1) fun e3 => ?_
  unfold F17_L8
  refine same_loop (A := K (.bool false) []) (B := K (.bool true) []) (S := fun i => (i, a1, a2, a3, a4, b1, b2, b3, b4, ())) l4 h2 (fun W i => rfl) (fun hne => ff fun hh => hne hh.2.2.2) fun e4 => ?_
  rwa [show decide ((⟨a1, a2, a3, a4⟩ : Snd) = ⟨b1, b2, b3, b4⟩) = true by simp [e1, e2, e3, e4]] at h
def sp17 : Sp := ⟨S17, L17, fun g => g.2.2.1.length ≤ 4294967296 ∧ g.2.2.2.1.length ≤ 4294967296, fun g => .bool (decide ((⟨g.1, g.2.1, g.2.2.1, g.2.2.2.1⟩ : Snd) = ⟨g.2.2.2.2.1, g.2.2.2.2.2.1, g.2.2.2.2.2.2.1, g.2.2.2.2.2.2.2.1⟩)), fun _ => none⟩
theorem sp17_ok : sp17.Ok Try.prog 17 true :=
  ⟨fun g _ X hp h => F17_ok _ _ X (F17_is (a := ⟨g.1, g.2.1, g.2.2.1, g.2.2.2.1⟩) (b := ⟨g.2.2.2.2.1, g.2.2.2.2.2.1, g.2.2.2.2.2.2.1, g.2.2.2.2.2.2.2.1⟩) hp.1 hp.2 h), fun _ _ _ => rfl, fun _ => rfl, fun _ _ => ⟨rfl, rfl⟩⟩
theorem F26_is {a b : Rcv} {K : Kn} (h1 : a.have_.length ≤ 4294967296) (h2 : a.data.length ≤ 4294967296) (h : K (.bool (decide (a = b))) []) : F26 (a.next, a.have_, a.data, b.next, b.have_, b.data, ()) K := by
  obtain ⟨a1, a2, a3⟩ := a
  obtain ⟨b1, b2, b3⟩ := b
  have ff : ∀ (hne : ¬ (a1 = b1 ∧ a2 = b2 ∧ a3 = b3)), K (.bool false) [] := fun hne => by
    rwa [show decide ((⟨a1, a2, a3⟩ : Rcv) = ⟨b1, b2, b3⟩) = false by simp only [Rcv.mk.injEq]; exact decide_eq_false hne] at h
  unfold F26 F26_J2
  dsimp only [Lf.ty, prodL] at h h1 h2 ⊢
  by_cases e1 : a1 = b1
  case neg => simp only [decide_eq_false e1, Bool.not_false, cond_true]; exact ff fun hh => e1 hh.1
  by_cases l2 : a2.length = b2.length
  case neg =>
    rw [show decide ((a2.length : Int) = (b2.length : Int)) = false by simp; omega]
    simp only [decide_eq_true e1, Bool.not_true, Bool.not_false, cond_true, cond_false]; exact ff fun hh => l2 (by rw [hh.2.1])
  by_cases l3 : a3.length = b3.length
  case neg =>
    rw [show decide ((a2.length : Int) = (b2.length : Int)) = true by simp; omega, show decide ((a3.length : Int) = (b3.length : Int)) = false by simp; omega]
    simp only [decide_eq_true e1, Bool.not_true, Bool.not_false, cond_true, cond_false]; exact ff fun hh => l3 (by rw [hh.2.2])
  rw [show decide ((a2.length : Int) = (b2.length : Int)) = true by simp; omega, show decide ((a3.length : Int) = (b3.length : Int)) = true by simp; omega]
  simp only [decide_eq_true e1, Bool.not_true, cond_false]
  unfold F26_L4
  refine same_loop (A := K (.bool false) []) (B := F26_L8 K (0, a1, a2, a3, b1, b2, b3, ())) (S := fun i => (i, a1, a2, a3, b1, b2, b3, ())) l2 h1 (fun W i => rfl) (fun hne => ff fun hh => hne hh.2.1) fun e2 => ?_
  unfold F26_L8
  refine same_loop (A := K (.bool false) []) (B := K (.bool true) []) (S := fun i => (i, a1, a2, a3, b1, b2, b3, ())) l3 h2 (fun W i => rfl) (fun hne => ff fun hh => hne hh.2.2) fun e3 => ?_
  rwa [show decide ((⟨a1, a2, a3⟩ : Rcv) = ⟨b1, b2, b3⟩) = true by simp [e1, e2, e3]] at h
def sp26 : Sp := ⟨S26, L26, fun g => g.2.1.length ≤ 4294967296 ∧ g.2.2.1.length ≤ 4294967296, fun g => .bool (decide ((⟨g.1, g.2.1, g.2.2.1⟩ : Rcv) = ⟨g.2.2.2.1, g.2.2.2.2.1, g.2.2.2.2.2.1⟩)), fun _ => none⟩
theorem sp26_ok : sp26.Ok Try.prog 26 true :=
  ⟨fun g _ X hp h => F26_ok _ _ X (F26_is (a := ⟨g.1, g.2.1, g.2.2.1⟩) (b := ⟨g.2.2.2.1, g.2.2.2.2.1, g.2.2.2.2.2.1⟩) hp.1 hp.2 h), fun _ _ _ => rfl, fun _ => rfl, fun _ _ => ⟨rfl, rfl⟩⟩
theorem frm_eq {u v : Frm} : (decide (u.ack = v.ack) && (decide (u.number = v.number) && (decide (u.data = v.data) && true))) = decide (u = v) := by
  obtain ⟨a, b, c⟩ := u
  obtain ⟨d, e, f⟩ := v
  simp [Bool.decide_and]
theorem F18_is {a b : List Frm} {K : Kn} (hr : a.length ≤ 4294967296) (h : K (.bool (decide (a = b))) []) : F18 (a, b, ()) K := by
  unfold F18
  dsimp only [Lf.ty, prodL]
  by_cases hl : a.length = b.length
  case neg =>
    rw [show (!decide ((a.length : Int) = (b.length : Int))) = true by simp; omega, cond_true]
    rwa [show decide (a = b) = false by simp; rintro rfl; exact hl rfl] at h
  rw [show (!decide ((a.length : Int) = (b.length : Int))) = false by simp; omega, cond_false]
  unfold F18_L2
  refine same_loop (A := K (.bool false) []) (B := K (.bool true) []) (S := fun i => (a, b, i, ())) hl hr (fun W i => ?_) (fun hne => by rwa [decide_eq_false hne] at h) fun e => by rwa [decide_eq_true e] at h
  dsimp only
  unfold F18_B2
  simp only [frm_eq]
def sp18 : Sp := ⟨S18, L18, fun g => g.1.length ≤ 4294967296, fun g => .bool (decide (g.1 = g.2.1)), fun _ => none⟩
theorem sp18_ok : sp18.Ok Try.prog 18 true :=
  ⟨fun _ _ X hp h => F18_ok _ _ X (F18_is hp h), fun _ _ _ => rfl, fun _ => rfl, fun _ _ => ⟨rfl, rfl⟩⟩

def bytesOf (l : List ByteArray) : Nat := (l.map (·.size)).sum
def greatS (data : List ByteArray) (n : Nat) : Bool := decide (100 < data.length ∨ 100 < n ∨ 1000 < bytesOf data)
theorem bytes_snoc {l : List ByteArray} {n : Nat} (h : n < l.length) : bytesOf (l.take (n + 1)) = bytesOf (l.take n) + l[n].size := by
  unfold bytesOf
  rw [take_snoc h, List.map_append, List.sum_append]
  simp
theorem bytes_take {l : List ByteArray} {n : Nat} : bytesOf (l.take n) ≤ bytesOf l := by
  unfold bytesOf
  have : l = l.take n ++ l.drop n := (List.take_append_drop n l).symm
  conv => rhs; rw [this]
  rw [List.map_append, List.sum_append]
  omega
theorem great_loop {γ : Type} {l : List ByteArray} {S : Int → Int → γ} {body : (γ → Prop) → γ → Prop} {B : Int → Prop} (hr : l.length ≤ 4294967296) (hs : bytesOf l ≤ 4294967296)
    (hb : ∀ (W : γ → Prop) (n i : Int), body W (S n i) = bif decide (i < (l.length : Int)) then At l i fun u => W (S (IntKind.i64.wrap (n + (u.size : Int))) (IntKind.i64.wrap (i + 1))) else B n) (hB : B (bytesOf l : Int)) : LoopW body (S 0 0) := by
  refine LoopW.countTo l.length (fun n => S (bytesOf (l.take n) : Int) (n : Int)) (fun _ => True) (by simp [bytesOf]) (fun n hn _ W hW => ?_) trivial
  rw [hb]
  by_cases hlt : n < l.length
  · rw [show decide ((n : Int) < (l.length : Int)) = true by simp; omega, cond_true]
    refine At_of hlt ?_
    have h1 : bytesOf (l.take (n + 1)) ≤ bytesOf l := bytes_take
    have h2 := bytes_snoc hlt
    rw [wrapS hlt hr, wrap64 (by omega) (by omega)]
    have := hW hlt trivial
    rw [h2] at this
    rwa [← Int.natCast_add]
  · rw [show decide ((n : Int) < (l.length : Int)) = false by simp; omega, cond_false, List.take_of_length_le (by omega)]
    exact hB
theorem great_end {n m k : Nat} {K : Kn} (h : K (.bool (decide (100 < n ∨ 100 < m ∨ 1000 < k))) []) : bif decide (100 < (n : Int)) then K (.bool true) [] else bif decide (100 < (m : Int)) then K (.bool true) [] else K (.bool (decide (1000 < (k : Int)))) [] := by
  by_cases h1 : 100 < n
  · rw [show decide (100 < (n : Int)) = true by simp; omega, cond_true]
    rwa [decide_eq_true (.inl h1)] at h
  rw [show decide (100 < (n : Int)) = false by simp; omega, cond_false]
  by_cases h2 : 100 < m
  · rw [show decide (100 < (m : Int)) = true by simp; omega, cond_true]
    rwa [decide_eq_true (.inr (.inl h2))] at h
  rw [show decide (100 < (m : Int)) = false by simp; omega, cond_false]
  rwa [show decide (100 < n ∨ 100 < m ∨ 1000 < k) = decide (1000 < (k : Int)) by rw [decide_eq_decide]; omega] at h
theorem F9_is {s : Snd} {K : Kn} (h1 : s.data.length ≤ 4294967296) (h2 : bytesOf s.data ≤ 4294967296) (h : K (.bool (greatS s.data s.sent.length)) []) : F9 (s.base, s.window, s.data, s.sent, ()) K := by
  unfold F9 F9_L2
  exact great_loop (B := fun n => bif decide (100 < (s.data.length : Int)) then K (.bool true) [] else bif decide (100 < (s.sent.length : Int)) then K (.bool true) [] else K (.bool (decide (1000 < n))) []) (S := fun n i => (n, i, s.base, s.window, s.data, s.sent, ())) h1 h2 (fun W n i => rfl) (great_end h)
def sp9 : Sp := ⟨S9, L9, fun g => g.2.2.1.length ≤ 4294967296 ∧ bytesOf g.2.2.1 ≤ 4294967296, fun g => .bool (greatS g.2.2.1 g.2.2.2.1.length), fun _ => none⟩
theorem sp9_ok : sp9.Ok Try.prog 9 true :=
  ⟨fun g _ X hp h => F9_ok _ _ X (F9_is (s := ⟨g.1, g.2.1, g.2.2.1, g.2.2.2.1⟩) hp.1 hp.2 h), fun _ _ _ => rfl, fun _ => rfl, fun _ _ => ⟨rfl, rfl⟩⟩
def greatR (n : Nat) (data : List ByteArray) : Bool := decide (100 < n ∨ 100 < data.length ∨ 1000 < bytesOf data)
theorem F21_is {r : Rcv} {K : Kn} (h1 : r.data.length ≤ 4294967296) (h2 : bytesOf r.data ≤ 4294967296) (h : K (.bool (greatR r.have_.length r.data)) []) : F21 (r.next, r.have_, r.data, ()) K := by
  unfold F21 F21_L2
  exact great_loop (B := fun n => bif decide (100 < (r.have_.length : Int)) then K (.bool true) [] else bif decide (100 < (r.data.length : Int)) then K (.bool true) [] else K (.bool (decide (1000 < n))) []) (S := fun n i => (n, i, r.next, r.have_, r.data, ())) h1 h2 (fun W n i => rfl) (great_end h)
def sp21 : Sp := ⟨S21, L21, fun g => g.2.2.1.length ≤ 4294967296 ∧ bytesOf g.2.2.1 ≤ 4294967296, fun g => .bool (greatR g.2.1.length g.2.2.1), fun _ => none⟩
theorem sp21_ok : sp21.Ok Try.prog 21 true :=
  ⟨fun g _ X hp h => F21_ok _ _ X (F21_is (r := ⟨g.1, g.2.1, g.2.2.1⟩) hp.1 hp.2 h), fun _ _ _ => rfl, fun _ => rfl, fun _ _ => ⟨rfl, rfl⟩⟩

def elemErr (w : Int) (i : Int) (d : ByteArray) (t : Int) : Int := if 65472 < d.size then 4 else if t < -1 ∨ 1099511627776 < t ∨ (w ≤ i ∧ t ≠ -1) then 2 else 0
theorem F35_is {b w : Int} {data : List ByteArray} {sent : List Int} {i : Nat} {K : Kn} (hi : i < data.length) (hj : i < sent.length) (h : K (.int .i64 (elemErr w i data[i] sent[i])) []) : F35 (b, w, data, sent, (i : Int), ()) K := by
  unfold F35 F35_J6
  unfold elemErr at h
  dsimp only [Lf.ty, prodL] at h ⊢
  refine At_of hi ?_
  by_cases h1 : 65472 < data[i].size
  · rw [if_pos h1] at h
    rw [show decide (65472 < (data[i].size : Int)) = true by simp; omega, cond_true]; exact h
  rw [if_neg h1] at h
  rw [show decide (65472 < (data[i].size : Int)) = false by simp; omega, cond_false]
  refine At_of hj ?_
  by_cases h2 : sent[i] < -1
  · rw [if_pos (.inl h2)] at h
    rw [decide_eq_true h2, cond_true]; exact h
  rw [decide_eq_false h2, cond_false]
  refine At_of hj ?_
  by_cases h3 : 1099511627776 < sent[i]
  · rw [if_pos (.inr (.inl h3))] at h
    rw [decide_eq_true h3, cond_true]; exact h
  rw [decide_eq_false h3, cond_false]
  by_cases h4 : w ≤ (i : Int)
  · rw [decide_eq_true h4, cond_true]
    refine At_of hj ?_
    by_cases h5 : sent[i] = -1
    · rw [if_neg (by simp [h5])] at h
      simp only [decide_eq_true h5, Bool.not_true, cond_false]; exact h
    · rw [if_pos (.inr (.inr ⟨h4, h5⟩))] at h
      simp only [decide_eq_false h5, Bool.not_false, cond_true]; exact h
  · rw [decide_eq_false h4, cond_false, cond_false]
    rw [if_neg (by simp [h2, h3, h4])] at h
    exact h
def elemAt (w : Int) (data : List ByteArray) (sent : List Int) (i : Int) : Int := elemErr w i (data.getD i.toNat ⟨#[]⟩) (sent.getD i.toNat 0)
def sp35 : Sp := ⟨S35, L35, fun g => 0 ≤ g.2.2.2.2.1 ∧ g.2.2.2.2.1 < (g.2.2.1.length : Int) ∧ g.2.2.2.2.1 < (g.2.2.2.1.length : Int), fun g => .int .i64 (elemAt g.2.1 g.2.2.1 g.2.2.2.1 g.2.2.2.2.1), fun _ => none⟩
theorem sp35_ok : sp35.Ok Try.prog 35 true :=
  ⟨fun g K X hp h => F35_ok _ _ X (by
    obtain ⟨b, w, data, sent, i, _⟩ := g
    obtain ⟨h1, h2, h3⟩ := hp
    dsimp only [sp35, Lf.ty, prodL] at h1 h2 h3 h ⊢
    obtain ⟨n, rfl⟩ := Int.eq_ofNat_of_zero_le h1
    have h2' : n < data.length := by omega
    have h3' : n < sent.length := by omega
    refine F35_is h2' h3' ?_
    unfold elemAt at h
    simpa [h2', h3', obL] using h), fun _ _ _ => rfl, fun _ => rfl, fun _ _ => ⟨rfl, rfl⟩⟩
def frmErr (f : Frm) : Int := if okN f.number = false then 2 else if 65472 < f.data.size then 4 else if f.ack = true ∧ f.data ≠ ⟨#[]⟩ then 1 else 0
theorem F36_is {f : Frm} {K : Kn} (h : K (.int .i64 (frmErr f)) []) : F36 (f.ack, f.number, f.data, ()) K := by
  unfold F36 F36_J2
  unfold frmErr at h
  dsimp only [Lf.ty, prodL] at h ⊢
  refine ⟨trivial, ?_⟩
  cases h1 : okN f.number
  · simp only [h1, if_true, Bool.not_false, cond_true] at h ⊢; exact h
  simp only [h1, Bool.true_eq_false, if_false, Bool.not_true, cond_false] at h ⊢
  by_cases h2 : 65472 < f.data.size
  · rw [if_pos h2] at h
    rw [show decide (65472 < (f.data.size : Int)) = true by simp; omega, cond_true]; exact h
  rw [if_neg h2] at h
  rw [show decide (65472 < (f.data.size : Int)) = false by simp; omega, cond_false]
  cases h3 : f.ack
  · simp only [h3, Bool.false_eq_true, false_and, if_false, cond_false] at h ⊢; exact h
  · by_cases h4 : f.data = ⟨#[]⟩
    · simp only [h3, h4, ne_eq, not_true, and_false, if_false, decide_true, Bool.not_true, cond_false, cond_true] at h ⊢; exact h
    · simp only [h3, h4, ne_eq, not_false_eq_true, and_true, if_true, decide_false, Bool.not_false, cond_true] at h ⊢; exact h
def sp36 : Sp := ⟨S36, L36, fun _ => True, fun g => .int .i64 (frmErr ⟨g.1, g.2.1, g.2.2.1⟩), fun _ => none⟩
theorem sp36_ok : sp36.Ok Try.prog 36 true :=
  ⟨fun g _ X _ h => F36_ok _ _ X (F36_is (f := ⟨g.1, g.2.1, g.2.2.1⟩) h), fun _ _ _ => rfl, fun _ => rfl, fun _ _ => ⟨rfl, rfl⟩⟩
theorem F38_is {f : Frm} {K : Kn} (h : K (.int .i64 (frmErr f)) []) : F38 (f.ack, f.number, f.data, ()) K := by
  unfold F38 F38_J2
  unfold frmErr at h
  dsimp only [Lf.ty, prodL] at h ⊢
  refine ⟨trivial, ?_⟩
  cases h1 : okN f.number
  · simp only [h1, if_true, Bool.not_false, cond_true] at h ⊢; exact h
  simp only [h1, Bool.true_eq_false, if_false, Bool.not_true, cond_false] at h ⊢
  refine ⟨trivial, ?_⟩
  by_cases h2 : 65472 < f.data.size
  · rw [if_pos h2] at h
    rw [show fitsB f.data = false by unfold fitsB; simp; omega, Bool.not_false, cond_true]; exact h
  rw [if_neg h2] at h
  rw [show fitsB f.data = true by unfold fitsB; simp; omega, Bool.not_true, cond_false]
  cases h3 : f.ack
  · simp only [h3, Bool.false_eq_true, false_and, if_false, cond_false] at h ⊢; exact h
  · by_cases h4 : f.data = ⟨#[]⟩
    · simp only [h3, h4, ne_eq, not_true, and_false, if_false, decide_true, Bool.not_true, cond_false, cond_true] at h ⊢; exact h
    · simp only [h3, h4, ne_eq, not_false_eq_true, and_true, if_true, decide_false, Bool.not_false, cond_true] at h ⊢; exact h
def sp38 : Sp := ⟨S38, L38, fun _ => True, fun g => .int .i64 (frmErr ⟨g.1, g.2.1, g.2.2.1⟩), fun _ => none⟩
theorem sp38_ok : sp38.Ok Try.prog 38 true :=
  ⟨fun g _ X _ h => F38_ok _ _ X (F38_is (f := ⟨g.1, g.2.1, g.2.2.1⟩) h), fun _ _ _ => rfl, fun _ => rfl, fun _ _ => ⟨rfl, rfl⟩⟩
theorem F37_is {l : List Int} {v : Int} {K : Kn} (hr : l.length ≤ 4294967296) (h : K (.bool (decide (v ∈ l))) []) : F37 (l, v, ()) K := by
  unfold F37
  dsimp only [Lf.ty, prodL]
  refine ⟨hr, ?_⟩
  rwa [show decide (v ∈ l) = decide (0 ≤ ixOf l v) by
    rw [decide_eq_decide]
    unfold ixOf
    by_cases hm : v ∈ l
    · simp [hm]
    · simp [hm]] at h
def sp37 : Sp := ⟨S37, L37, fun g => g.1.length ≤ 4294967296, fun g => .bool (decide (g.2.1 ∈ g.1)), fun _ => none⟩
theorem sp37_ok : sp37.Ok Try.prog 37 true :=
  ⟨fun _ _ X hp h => F37_ok _ _ X (F37_is hp h), fun _ _ _ => rfl, fun _ => rfl, fun _ _ => ⟨rfl, rfl⟩⟩
end Go.Proofs.Ytofjpelbjehddaa
