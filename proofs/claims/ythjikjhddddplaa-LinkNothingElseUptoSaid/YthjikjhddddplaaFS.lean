/-
  Link: what its functions yield, in plain terms.
-/
import Derived.Test.YthjikjhddddplaaFA
namespace Go.Proofs.Ythjikjhddddplaa
set_option linter.unusedVariables false
set_option linter.unusedSimpArgs false
open Go.RowKit

def pktErr (p : Pkt) : Int := if p.to ≠ 0 ∧ p.to ≠ 1 then 2 else if p.data.size > 65536 then 4 else 0
def fltErr (now : Int) (f : Flt) : Int := if pktErr f.pkt ≠ 0 then pktErr f.pkt else if f.due ≤ now ∨ f.due > now + 9 then 2 else 0
def delaysOf (f : Int) : List Int := if f.tmod 4 = 1 then [1] else if f.tmod 4 = 2 then [1 + (f.tdiv 4).tmod 8] else if f.tmod 4 = 3 then [1, 2 + (f.tdiv 4).tmod 8] else []

theorem wrap64 {n : Int} (h1 : -9223372036854775808 ≤ n) (h2 : n < 9223372036854775808) : IntKind.i64.wrap n = n := by
  simp [IntKind.wrap, IntKind.bits, IntKind.signed]; omega

theorem F26_is {to : Int} {data : ByteArray} {K : Kn} (h : K (.int .i64 (pktErr ⟨to, data⟩)) []) : F26 (to, data, ()) K := by
  unfold F26
  unfold pktErr at h
  dsimp only [Lf.ty, prodL] at h ⊢
  simp only [Bool.cond_eq_ite]
  ((repeat' split) <;> (repeat' split at h) <;> first | exact h | contradiction | (exfalso; (try simp only [decide_eq_true_eq, Bool.not_eq_true', decide_eq_false_iff_not, Bool.not_eq_true, Bool.not_eq_false, Bool.not_eq_false', Bool.and_eq_true, Bool.or_eq_true, ne_eq, not_true, not_false_iff, Decidable.not_not] at *) <;> first | contradiction | omega))
def sp26 : Sp := ⟨S26, L26, fun _ => True, fun g => .int .i64 (pktErr ⟨g.1, g.2.1⟩), fun _ => none⟩
theorem sp26_ok : sp26.Ok Try.prog 26 true :=
  ⟨fun _ _ X _ h => F26_ok _ _ X (F26_is h), fun _ _ _ => rfl, fun _ => rfl, fun _ _ => ⟨rfl, rfl⟩⟩
theorem F31_is {to due now : Int} {data : ByteArray} {K : Kn} (h1 : 0 ≤ now) (h2 : now ≤ 1099511627776) (h : K (.int .i64 (fltErr now ⟨⟨to, data⟩, due⟩)) []) : F31 (to, data, due, now, ()) K := by
  have hw : IntKind.i64.wrap (now + 9) = now + 9 := wrap64 (by omega) (by omega)
  unfold F31
  unfold fltErr pktErr at h
  dsimp only [Lf.ty, prodL] at h ⊢
  simp only [Bool.cond_eq_ite, hw]
  ((repeat' split) <;> (repeat' split at h) <;> first | exact h | contradiction | (exfalso; (try simp only [decide_eq_true_eq, Bool.not_eq_true', decide_eq_false_iff_not, Bool.not_eq_true, Bool.not_eq_false, Bool.not_eq_false', Bool.and_eq_true, Bool.or_eq_true, ne_eq, not_true, not_false_iff, Decidable.not_not] at *) <;> first | contradiction | omega))
def sp31 : Sp := ⟨S31, L31, fun g => 0 ≤ g.2.2.2.1 ∧ g.2.2.2.1 ≤ 1099511627776, fun g => .int .i64 (fltErr g.2.2.2.1 ⟨⟨g.1, g.2.1⟩, g.2.2.1⟩), fun _ => none⟩
theorem sp31_ok : sp31.Ok Try.prog 31 true :=
  ⟨fun _ _ X hp h => F31_ok _ _ X (F31_is hp.1 hp.2 h), fun _ _ _ => rfl, fun _ => rfl, fun _ _ => ⟨rfl, rfl⟩⟩

/-! ### Loops that count -/
theorem LoopW.count {γ : Type} {body : (γ → Prop) → γ → Prop} (N : Nat) (S : Nat → γ) (P : Nat → Prop) (h : ∀ n, n ≤ N → P n → ∀ W : γ → Prop, (n < N → P (n + 1) → W (S (n + 1))) → body W (S n)) (h0 : P 0) : LoopW body (S 0) := by
  have key : ∀ k n, n + k = N → P n → loopN body (k + 1) (S n) := by
    intro k
    induction k with
    | zero => intro n hn hp; exact h n (by omega) hp _ fun hlt => by omega
    | succ k ih => intro n hn hp; exact h n (by omega) hp _ fun hlt hp' => ih (n + 1) (by omega) hp'
  exact ⟨N + 1, key N 0 (by omega) h0⟩
theorem At_of {α : Type} {l : List α} {n : Nat} {K : α → Prop} (h : n < l.length) (hK : K l[n]) : At l (n : Int) K :=
  ⟨by omega, l[n], by simp [h], hK⟩
theorem take_snoc {α : Type} {l : List α} {n : Nat} (h : n < l.length) : l.take (n + 1) = l.take n ++ [l[n]] := by
  simp
theorem wrapS {n N : Nat} (h : n < N) (hN : N ≤ 4294967296) : IntKind.i64.wrap ((n : Int) + 1) = ((n + 1 : Nat) : Int) := by
  rw [wrap64 (by omega) (by omega)]; rfl

def sp17 : Sp := ⟨S17, L17, fun _ => True, fun g => .bool (decide ((g.2.1.length : Int) = 0)), fun _ => none⟩
theorem sp17_ok : sp17.Ok Try.prog 17 true :=
  ⟨fun _ _ X _ h => F17_ok _ _ X h, fun _ _ _ => rfl, fun _ => rfl, fun _ _ => ⟨rfl, rfl⟩⟩
def sp18 : Sp := ⟨S18, L18, fun _ => True, fun g => .bool (decide ((g.2.1.length : Int) = 0)), fun _ => none⟩
theorem sp18_ok : sp18.Ok Try.prog 18 true :=
  ⟨fun _ _ X _ h => F18_ok _ _ X h, fun _ _ _ => rfl, fun _ => rfl, fun _ _ => ⟨rfl, rfl⟩⟩

theorem F21_is {a b : List Pkt} {K : Kn} (hr : a.length ≤ 4294967296) (h : K (.bool (decide (a = b))) []) : F21 (a, b, ()) K := by
  unfold F21
  dsimp only [Lf.ty, prodL]
  by_cases hl : a.length = b.length
  case neg =>
    rw [show (!decide ((a.length : Int) = (b.length : Int))) = true by simp; omega, cond_true]
    rwa [show decide (a = b) = false by simp; rintro rfl; exact hl rfl] at h
  rw [show (!decide ((a.length : Int) = (b.length : Int))) = false by simp; omega, cond_false]
  refine LoopW.count a.length (fun n => (a, b, (n : Int), ())) (fun n => a.take n = b.take n) (fun n hn hp W hW => ?_) (by simp)
  dsimp only
  by_cases hlt : n < a.length
  · rw [show decide ((n : Int) < (a.length : Int)) = true by simp; omega, cond_true]
    refine At_of hlt (At_of (by omega) ?_)
    by_cases he : a[n] = b[n]'(by omega)
    · rw [show (!(decide (a[n].to = (b[n]'(by omega)).to) && (decide (a[n].data = (b[n]'(by omega)).data) && true))) = false by rw [he]; simp, cond_false, wrapS hlt hr]
      exact hW hlt (by rw [take_snoc hlt, take_snoc (by omega), hp, he])
    · rw [show (!(decide (a[n].to = (b[n]'(by omega)).to) && (decide (a[n].data = (b[n]'(by omega)).data) && true))) = true by
        simp only [Bool.not_eq_true', Bool.and_eq_false_iff, decide_eq_false_iff_not, Bool.and_true, Bool.true_eq_false, or_false]
        by_cases h1 : a[n].to = (b[n]'(by omega)).to
        · right; intro h2; exact he (by cases hx : a[n]; cases hy : b[n]'(by omega); simp_all)
        · exact .inl h1, cond_true]
      rwa [show decide (a = b) = false by simp; rintro rfl; exact he rfl] at h
  · rw [show decide ((n : Int) < (a.length : Int)) = false by simp; omega, cond_false]
    have : a = b := by
      rw [List.take_of_length_le (by omega), List.take_of_length_le (by omega)] at hp
      exact hp
    rwa [show decide (a = b) = true by simp [this]] at h
def sp21 : Sp := ⟨S21, L21, fun g => g.1.length ≤ 4294967296, fun g => .bool (decide (g.1 = g.2.1)), fun _ => none⟩
theorem sp21_ok : sp21.Ok Try.prog 21 true :=
  ⟨fun _ _ X hp h => F21_ok _ _ X (F21_is hp h), fun _ _ _ => rfl, fun _ => rfl, fun _ _ => ⟨rfl, rfl⟩⟩

def greatB (fl : List Flt) (ft : List Int) : Bool := decide ((∃ f ∈ fl.take 13, 200 < f.pkt.data.size) ∨ 12 < fl.length ∨ 20 < ft.length)
theorem F10_is {now : Int} {fl : List Flt} {ft : List Int} {K : Kn} (hr : fl.length ≤ 4294967296) (h : K (.bool (greatB fl ft)) []) : F10 (now, fl, ft, ()) K := by
  unfold F10
  dsimp only [Lf.ty, prodL]
  refine LoopW.count fl.length (fun n => ((n : Int), now, fl, ft, ())) (fun n => n ≤ 13 ∧ ∀ f ∈ fl.take n, ¬ 200 < f.pkt.data.size) (fun n hn hp W hW => ?_) (by simp)
  dsimp only
  obtain ⟨hn13, hp⟩ := hp
  have fin : (fl.length ≤ n ∨ 13 ≤ n) → bif decide (12 < (fl.length : Int)) then K (.bool true) [] else K (.bool (decide (20 < (ft.length : Int)))) [] := fun hd => by
    have hno : ¬ ∃ f ∈ fl.take 13, 200 < f.pkt.data.size := by
      rintro ⟨f, hf, hf2⟩
      refine hp f ?_ hf2
      rcases hd with hd | hd
      · rw [List.take_of_length_le hd]; exact List.mem_of_mem_take hf
      · rwa [show n = 13 by omega]
    unfold greatB at h
    by_cases h12 : 12 < fl.length
    · rw [show decide (12 < (fl.length : Int)) = true by simp; omega, cond_true]
      rwa [decide_eq_true (.inr (.inl h12))] at h
    · rw [show decide (12 < (fl.length : Int)) = false by simp; omega, cond_false]
      rwa [show decide ((∃ f ∈ fl.take 13, 200 < f.pkt.data.size) ∨ 12 < fl.length ∨ 20 < ft.length) = decide (20 < (ft.length : Int)) by
        rw [decide_eq_decide]; constructor
        · rintro (h1 | h1 | h1)
          · exact absurd h1 hno
          · exact absurd h1 h12
          · omega
        · intro h1; exact .inr (.inr (by omega))] at h
  by_cases hlt : n < fl.length
  · rw [show decide ((n : Int) < (fl.length : Int)) = true by simp; omega, cond_true]
    by_cases h13 : n < 13
    · rw [show decide ((n : Int) < 13) = true by simp; omega, cond_true]
      refine At_of hlt ?_
      by_cases h200 : 200 < fl[n].pkt.data.size
      · rw [show decide (200 < (fl[n].pkt.data.size : Int)) = true by simp; omega, cond_true]
        rwa [show greatB fl ft = true by
          unfold greatB
          exact decide_eq_true (.inl ⟨fl[n], by rw [List.mem_take_iff_getElem]; exact ⟨n, by omega, rfl⟩, h200⟩)] at h
      · rw [show decide (200 < (fl[n].pkt.data.size : Int)) = false by simp; omega, cond_false, wrapS hlt hr]
        refine hW hlt ⟨by omega, fun f hf => ?_⟩
        rw [take_snoc hlt] at hf
        rcases List.mem_append.1 hf with hf | hf
        · exact hp f hf
        · simp at hf; subst hf; exact h200
    · rw [show decide ((n : Int) < 13) = false by simp; omega, cond_false]
      exact fin (.inr (by omega))
  · rw [show decide ((n : Int) < (fl.length : Int)) = false by simp; omega, cond_false]
    exact fin (.inl (by omega))
def sp10 : Sp := ⟨S10, L10, fun g => g.2.1.length ≤ 4294967296, fun g => .bool (greatB g.2.1 g.2.2.1), fun _ => none⟩
theorem sp10_ok : sp10.Ok Try.prog 10 true :=
  ⟨fun _ _ X hp h => F10_ok _ _ X (F10_is hp h), fun _ _ _ => rfl, fun _ => rfl, fun _ _ => ⟨rfl, rfl⟩⟩
end Go.Proofs.Ythjikjhddddplaa
