/-
  Arq: the law ArqWindow.
-/
import Derived.Test.YtofjpelbjehddaaFJ4
import Derived.Test.YtofjpelbjehddaaGB
namespace Go.Proofs.Ytofjpelbjehddaa
set_option linter.unusedVariables false
set_option linter.unusedSimpArgs false
set_option linter.unusedSectionVars false
open Go.RowKit

/-! ### What Poll sends -/
theorem SOk.ofW {s : Snd} {b w : Int} {data : List ByteArray} {sent : List Int} (h : SOk s) (hb : 0 ≤ b) (hbl : b + (data.length : Int) ≤ 1099511627776) (hdl : data.length ≤ 1000) (hsl : sent.length = data.length) (hw : w = s.window)
    (hel : ∀ (k : Nat) (d : ByteArray) (t : Int), data[k]? = some d → sent[k]? = some t → d.size ≤ 65472 ∧ -1 ≤ t ∧ t ≤ 1099511627776 ∧ (w ≤ (k : Int) → t = -1)) : SOk ⟨b, w, data, sent⟩ :=
  ⟨by dsimp only; rw [hw]; exact h.w1, by dsimp only; rw [hw]; exact h.w2, hb, hbl, hdl, hsl, fun k h1 h2 => elem_iff.2 (hel k _ _ (List.getElem?_eq_getElem h1) (List.getElem?_eq_getElem h2))⟩
theorem SOk.atW {s : Snd} (h : SOk s) {k : Nat} {d : ByteArray} {t : Int} (hd : s.data[k]? = some d) (ht : s.sent[k]? = some t) : d.size ≤ 65472 ∧ -1 ≤ t ∧ t ≤ 1099511627776 ∧ (s.window ≤ (k : Int) → t = -1) := by
  obtain ⟨h1, rfl⟩ := List.getElem?_eq_some_iff.1 hd
  obtain ⟨h2, rfl⟩ := List.getElem?_eq_some_iff.1 ht
  exact elem_iff.1 (h.el k h1 h2)
theorem sentTo_at {sent : List Int} {c : Int} {k i : Nat} : (sentTo sent c k)[i]? = (sent[i]?).map fun t => if i < k ∧ dueB c t = true then c else t := by
  unfold sentTo
  rw [List.getElem?_mapIdx]
def nextS (s : Snd) (c : Int) : Snd := ⟨s.base, s.window, s.data, sentTo s.sent c (pollN s)⟩
def dueIdx (s : Snd) (c : Int) (k : Nat) : List Nat := (List.range k).filter fun i => dueB c (s.sent.getD i 0)
def frmAt (s : Snd) (i : Nat) : Frm := ⟨false, s.base + (i : Int), s.data.getD i ⟨#[]⟩⟩
theorem filterMap_if {α β : Type} (p : α → Bool) (f : α → β) : ∀ l : List α, (l.filterMap fun i => if p i = true then some (f i) else none) = (l.filter p).map f
  | [] => rfl
  | x :: l => by
    rw [List.filterMap_cons, List.filter_cons]
    cases h : p x <;> simp [filterMap_if p f l]
theorem frames_map (s : Snd) (c : Int) (k : Nat) : framesTo s c k = (dueIdx s c k).map (frmAt s) := filterMap_if _ _ _
theorem due_mem {s : Snd} {c : Int} {k i : Nat} : i ∈ dueIdx s c k ↔ i < k ∧ dueB c (s.sent.getD i 0) = true := by
  unfold dueIdx
  rw [List.mem_filter, List.mem_range]
theorem due_lt (s : Snd) (c : Int) (k : Nat) : (dueIdx s c k).Pairwise (· < ·) := List.Pairwise.filter _ List.pairwise_lt_range
theorem poll_eq {s : Snd} (h : SOk s) {c : Int} (h0 : 0 ≤ c) (h1 : c ≤ 1099511627776) : pollOf s c = (nextS s c, framesTo s c (pollN s)) := by
  unfold pollOf nextS
  rw [if_neg]
  rintro (h2 | h2)
  · exact h2 (Snd.err_iff.2 h)
  · have : okN c = true := decide_eq_true ⟨by omega, by omega⟩
    rw [this] at h2; cases h2
theorem pollN_le (s : Snd) : pollN s ≤ s.data.length := Nat.min_le_right _ _
theorem pollN_w {s : Snd} (h : SOk s) : ((pollN s : Nat) : Int) ≤ s.window := by have := h.w1; unfold pollN; omega
theorem next_ok {s : Snd} (h : SOk s) {c : Int} (h0 : 0 ≤ c) (h1 : c ≤ 1099511627776) : SOk (nextS s c) := by
  have hw := pollN_w h
  refine h.ofW h.b1 h.bl h.dl (by rw [sentTo_len]; exact h.sl) rfl fun k d t hk ht => ?_
  rw [sentTo_at] at ht
  cases hs : s.sent[k]? with
  | none => rw [hs] at ht; cases ht
  | some t0 =>
    rw [hs] at ht
    simp only [Option.map_some, Option.some.injEq] at ht
    obtain ⟨a1, a2, a3, a4⟩ := h.atW hk hs
    subst ht
    split
    · exact ⟨a1, by omega, by omega, fun hw => by omega⟩
    · exact ⟨a1, a2, a3, a4⟩
theorem next_sent {s : Snd} (h : SOk s) {c : Int} {i : Nat} (hi : i < pollN s) : (nextS s c).sent.getD i 0 = if dueB c (s.sent.getD i 0) = true then c else s.sent.getD i 0 := by
  have hl : i < s.sent.length := by rw [h.sl]; exact Nat.lt_of_lt_of_le hi (pollN_le s)
  unfold nextS
  rw [List.getD_eq_getElem?_getD, List.getD_eq_getElem?_getD, sentTo_at, List.getElem?_eq_getElem hl]
  simp [hi]
/-- Soon after, nothing that was sent is due. -/
theorem not_due {s : Snd} (h : SOk s) {c t : Int} (h0 : 0 ≤ c) (ht : t < 4) {i : Nat} (hi : i < pollN s) (hd : dueB c (s.sent.getD i 0) = true) : dueB (c + t) ((nextS s c).sent.getD i 0) = false := by
  rw [next_sent h hi, if_pos hd]
  unfold dueB
  exact decide_eq_false (by omega)
theorem again_nil {s : Snd} (h : SOk s) {c : Int} (h0 : 0 ≤ c) (h1 : c ≤ 1099511627776) : pollOf (nextS s c) c = (nextS s c, []) := by
  have hN : pollN (nextS s c) = pollN s := rfl
  rw [poll_eq (next_ok h h0 h1) h0 h1, hN]
  have hno : ∀ i, i < pollN s → dueB c ((nextS s c).sent.getD i 0) = false := fun i hi => by
    cases hd : dueB c (s.sent.getD i 0) with
    | true => have := not_due h h0 (t := 0) (by omega) hi hd; rwa [Int.add_zero] at this
    | false => rw [next_sent h hi, hd]; simpa using hd
  congr 1
  · unfold nextS
    congr 1
    refine List.ext_getElem? fun i => ?_
    show (sentTo (sentTo s.sent c (pollN s)) c (pollN s))[i]? = (sentTo s.sent c (pollN s))[i]?
    rw [sentTo_at]
    cases hs : (sentTo s.sent c (pollN s))[i]? with
    | none => rfl
    | some t =>
      simp only [Option.map_some, Option.some.injEq]
      by_cases hi : i < pollN s
      · have := hno i hi
        unfold nextS at this
        rw [List.getD_eq_getElem?_getD, hs] at this
        have this : dueB c t = false := this
        rw [if_neg (fun q => by rw [this] at q; cases q.2)]
      · rw [if_neg (fun q => hi q.1)]
  · rw [frames_map]
    have : dueIdx (nextS s c) c (pollN s) = [] := List.filter_eq_nil_iff.2 fun i hi => by
      rw [hno i (List.mem_range.1 hi)]; simp
    rw [this]; rfl

/-! ### The map -/
theorem mfind_key {n : Int} {x : Mib} : ∀ {l : List Mib}, mfind .mib (.int .i64 n) l = some x → x ∈ l ∧ x.k = n
  | [], h => by cases h
  | y :: l, h => by
    simp only [mfind, enc, List.headD_cons, keyEq] at h
    split at h
    · rename_i hd
      simp only [Option.some.injEq] at h
      subst h
      exact ⟨List.mem_cons_self .., (of_decide_eq_true hd).symm⟩
    · obtain ⟨h1, h2⟩ := mfind_key h
      exact ⟨List.mem_cons_of_mem _ h1, h2⟩
theorem mput_mem {n : Int} {x y : Mib} : ∀ {l : List Mib}, x ∈ mput .mib (.int .i64 n) y l → x = y ∨ x ∈ l
  | [], h => .inl (by simpa [mput] using h)
  | z :: l, h => by
    simp only [mput, enc, List.headD_cons, keyEq] at h
    split at h
    · rcases List.mem_cons.1 h with h | h
      · exact .inl h
      · exact .inr (List.mem_cons_of_mem _ h)
    · rcases List.mem_cons.1 h with h | h
      · exact .inr (by rw [h]; exact List.mem_cons_self ..)
      · rcases mput_mem h with h | h
        · exact .inl h
        · exact .inr (List.mem_cons_of_mem _ h)

/-! ### The law -/
theorem bif_decW {p : Prop} [Decidable p] {A B : Prop} : (bif decide p then A else B) = if p then A else B := by by_cases h : p <;> simp [h]
abbrev KW : Kn := fun r _ => r = .bool true
def keysIn (sent : List Mib) (l : List Frm) : Prop := ∀ x ∈ sent, ∃ f ∈ l, x.k = f.number
theorem F5_L13_is {ticks : Int} {l : List Frm} {sent : List Mib} (hl : l.length ≤ 4294967296) (h : ticks < 4 → ∀ f ∈ l, mfind .mib (.int .i64 f.number) sent = none) : F5_L13 KW (ticks, l, (l.length : Int), 0, sent, ()) := by
  unfold F5_L13
  refine LoopW.countTo l.length (fun n => (ticks, l, (l.length : Int), (n : Int), sent, ())) (fun _ => True) rfl (fun n hn _ W hW => ?_) trivial
  unfold F5_B13
  dsimp only
  rw [bif_decW]
  by_cases hlt : n < l.length
  · rw [if_pos (by omega)]
    refine At_of hlt ?_
    have hw : W (ticks, l, (l.length : Int), IntKind.i64.wrap ((n : Int) + 1), sent, ()) := by
      rw [wrapS hlt hl]; exact hW hlt trivial
    have hJ : F5_J16 KW W ticks l (l.length : Int) (n : Int) false sent := by unfold F5_J16; exact hw
    cases hm : mfind .mib (.int .i64 l[n].number) sent with
    | none => exact hJ
    | some x =>
      have ht : ¬ ticks < 4 := fun ht => by rw [h ht _ (List.getElem_mem hlt)] at hm; cases hm
      have hJ2 : F5_J16 KW W ticks l (l.length : Int) (n : Int) (decide (ticks < 4)) sent := by rw [decide_eq_false ht]; exact hJ
      cases hv : x.v <;> simp only [hv, cond_true, cond_false]
      · exact hJ
      · exact hJ2
  · rw [if_neg (by omega)]
    exact ⟨trivial, rfl⟩
theorem frames_at {s : Snd} {c : Int} {k n : Nat} (h : n < (framesTo s c k).length) : ∃ i, i ∈ dueIdx s c k ∧ (framesTo s c k)[n] = frmAt s i ∧ (dueIdx s c k)[n]? = some i := by
  have hl : n < (dueIdx s c k).length := by rw [frames_map, List.length_map] at h; exact h
  refine ⟨(dueIdx s c k)[n], List.getElem_mem hl, ?_, List.getElem?_eq_getElem hl⟩
  have : (framesTo s c k)[n]? = some (frmAt s (dueIdx s c k)[n]) := by rw [frames_map, List.getElem?_map, List.getElem?_eq_getElem hl]; rfl
  rw [List.getElem?_eq_getElem h] at this
  exact Option.some.inj this
theorem later_none {s : Snd} (h : SOk s) {c t : Int} (h0 : 0 ≤ c) (h1 : c + t ≤ 1099511627776) (hc : c ≤ 1099511627776) (t0 : 0 ≤ t) (ht : t < 4) {sent : List Mib} (hk : keysIn sent (framesTo s c (pollN s))) : ∀ f ∈ (pollOf (nextS s c) (c + t)).2, mfind .mib (.int .i64 f.number) sent = none := by
  intro f hf
  rw [poll_eq (next_ok h h0 hc) (by omega) h1] at hf
  have hf : f ∈ framesTo (nextS s c) (c + t) (pollN s) := hf
  rw [frames_map] at hf
  obtain ⟨j, hj, rfl⟩ := List.mem_map.1 hf
  obtain ⟨j1, j2⟩ := due_mem.1 hj
  cases hm : mfind .mib (.int .i64 (frmAt (nextS s c) j).number) sent with
  | none => rfl
  | some x =>
    exfalso
    obtain ⟨m1, m2⟩ := mfind_key hm
    obtain ⟨f, f1, f2⟩ := hk x m1
    rw [frames_map] at f1
    obtain ⟨i, i1, rfl⟩ := List.mem_map.1 f1
    obtain ⟨i2, i3⟩ := due_mem.1 i1
    have e : s.base + (i : Int) = s.base + (j : Int) := by
      have : (frmAt s i).number = (frmAt (nextS s c) j).number := by rw [← f2, m2]
      exact this
    obtain rfl : i = j := by omega
    rw [not_due h h0 ht i2 i3] at j2
    cases j2
theorem F5_J4_is {s : Snd} (h : SOk s) {c t : Int} (h0 : 0 ≤ c) (h1 : c ≤ 1099511627476) (t0 : 0 ≤ t) (t1 : t ≤ 255) : F5_J4 KW c t (framesTo s c (pollN s)) false s.base s.window s.data s.sent s.base s.window s.data (sentTo s.sent c (pollN s)) := by
  unfold F5_J4
  rw [cond_false]
  unfold F5_L6
  have hN := pollN_le s
  have hw := pollN_w h
  have hdl := h.dl
  have hb1 := h.b1
  have hbl := h.bl
  have hL : (framesTo s c (pollN s)).length ≤ pollN s := framesTo_len
  have hat := fun n hn => frames_at (s := s) (c := c) (k := pollN s) (n := n) hn
  have hlater := fun sent hk ht => later_none h (c := c) (t := t) h0 (by omega) (by omega) t0 ht (sent := sent) hk
  have hlen2 : (pollOf (nextS s c) (c + t)).2.length ≤ 4294967296 := by
    have := (poll_len (s := nextS s c) (c := c + t)).2.2
    have e : (nextS s c).data = s.data := rfl
    rw [e] at this; omega
  have hlt := due_lt s c (pollN s)
  generalize hl : framesTo s c (pollN s) = l at hL hat hlater ⊢
  refine LoopW.of (fun g => ∃ (n : Nat) (sent : List Mib), g = (c, t, l, l, (l.length : Int), (n : Int), s.base, s.window, s.data, s.sent, s.base, s.window, s.data, sentTo s.sent c (pollN s), sent, ()) ∧ n ≤ l.length ∧ keysIn sent l) (fun g => l.length - g.2.2.2.2.2.1.toNat) ?_ ⟨0, [], rfl, Nat.zero_le _, fun x hx => by cases hx⟩
  rintro _ ⟨n, sent, rfl, hn, hk⟩ W hW
  unfold F5_B6
  dsimp only
  rw [bif_decW]
  by_cases hnl : n < l.length
  · rw [if_pos (by omega)]
    refine At_of hnl ?_
    obtain ⟨i, i1, i2, i3⟩ := hat n hnl
    obtain ⟨i4, _⟩ := due_mem.1 i1
    have hid : i < s.data.length := by omega
    have en : l[n].number = s.base + (i : Int) := by rw [i2]; rfl
    have ed : l[n].data = s.data[i] := by rw [i2]; simp [frmAt, hid]
    have ea : l[n].ack = false := by rw [i2]; rfl
    have ew : IntKind.i64.wrap (l[n].number - s.base) = (i : Int) := by rw [en, wrap64 (by omega) (by omega)]; omega
    rw [ew, decide_eq_false (by omega), cond_false, decide_eq_false (by omega), cond_false, decide_eq_false (by omega), cond_false]
    refine At_of hid ?_
    rw [decide_eq_true ed, Bool.not_true, cond_false, ea, cond_false]
    have hw2 : W (c, t, l, l, (l.length : Int), IntKind.i64.wrap ((n : Int) + 1), s.base, s.window, s.data, s.sent, s.base, s.window, s.data, sentTo s.sent c (pollN s), mput .mib (.int .i64 l[n].number) ⟨l[n].number, true⟩ sent, ()) := by
      rw [wrapS hnl (by omega)]
      refine hW _ ⟨n + 1, _, rfl, hnl, fun x hx => ?_⟩ (by show l.length - ((n + 1 : Nat) : Int).toNat < l.length - ((n : Nat) : Int).toNat; rw [Int.toNat_natCast, Int.toNat_natCast]; omega)
      rcases mput_mem hx with rfl | hx
      · exact ⟨l[n], List.getElem_mem hnl, rfl⟩
      · exact hk x hx
    have hJ : F5_J11 KW W c t l l (l.length : Int) (n : Int) false s.base s.window s.data s.sent s.base s.window s.data (sentTo s.sent c (pollN s)) sent false l[n].number l[n].data := by
      unfold F5_J11; exact hw2
    rw [bif_decW]
    by_cases hn0 : 0 < n
    · rw [if_pos (by omega)]
      have e1 : IntKind.i64.wrap ((n : Int) - 1) = ((n - 1 : Nat) : Int) := by rw [wrap64 (by omega) (by omega)]; omega
      rw [e1]
      have hn1 : n - 1 < l.length := by omega
      refine At_of hn1 ?_
      obtain ⟨j, j1, j2, j3⟩ := hat (n - 1) hn1
      have ej : l[n - 1].number = s.base + (j : Int) := by rw [j2]; rfl
      have hij : j < i := by
        obtain ⟨a1, rfl⟩ := List.getElem?_eq_some_iff.1 i3
        obtain ⟨a2, rfl⟩ := List.getElem?_eq_some_iff.1 j3
        exact List.pairwise_iff_getElem.1 hlt (n - 1) n a2 a1 (by omega)
      rw [decide_eq_false (by omega)]
      exact hJ
    · rw [if_neg (by omega)]
      exact hJ
  · rw [if_neg (by omega)]
    refine ⟨trivial, ?_⟩
    have e1 : IntKind.i64.wrap t = t := wrap64 (by omega) (by omega)
    have e2 : IntKind.i64.wrap (c + t) = c + t := wrap64 (by omega) (by omega)
    rw [e1, e2]
    exact F5_L13_is hlen2 (hlater sent hk)
theorem F5_is {s : Snd} {c t : Int} (h1 : s.data.length ≤ 2000000) (h2 : s.sent.length ≤ 2000000) (h3 : bytesOf s.data ≤ 2000000) (t0 : 0 ≤ t) (t1 : t ≤ 255) : F5 (s.base, s.window, s.data, s.sent, c, t, ()) KW := by
  have yes : F5_J2 KW c t true s.base s.window s.data s.sent := by
    unfold F5_J2
    rw [cond_true]; exact ⟨trivial, rfl⟩
  unfold F5
  dsimp only [Lf.ty, prodL]
  refine ⟨⟨(by omega : s.data.length ≤ 4294967296), (by omega : bytesOf s.data ≤ 4294967296)⟩, ?_⟩
  cases greatS s.data s.sent.length
  case true => rw [cond_true]; exact yes
  rw [cond_false]
  refine ⟨trivial, ?_⟩
  by_cases he : Snd.err ⟨s.base, s.window, s.data, s.sent⟩ = 0
  case neg => rw [decide_eq_false he, Bool.not_false]; exact yes
  rw [decide_eq_true he, Bool.not_true, cond_false, bif_decW]
  have hs : SOk s := Snd.err_iff.1 he
  by_cases hc : c < 0
  · rw [if_pos hc]; exact yes
  rw [if_neg hc]
  by_cases hc2 : 1099511627476 < c
  · rw [decide_eq_true hc2]; exact yes
  rw [decide_eq_false hc2]
  have p1 : pollOf ⟨s.base, s.window, s.data, s.sent⟩ c = (nextS s c, framesTo s c (pollN s)) := poll_eq hs (by omega) (by omega)
  have p2 := again_nil hs (c := c) (by omega) (by omega)
  have p3 : Snd.err (nextS s c) = 0 := Snd.err_iff.2 (next_ok hs (by omega) (by omega))
  have e3 : (⟨(nextS s c).base, (nextS s c).window, (nextS s c).data, (nextS s c).sent⟩ : Snd) = nextS s c := rfl
  unfold F5_J2
  rw [cond_false]
  simp only [p1]
  refine ⟨trivial, trivial, trivial, ?_⟩
  rw [decide_eq_true p3, Bool.not_true, cond_false]
  simp only [p2]
  rw [decide_eq_true (show ((([] : List Frm).length : Nat) : Int) = 0 from rfl), Bool.not_true, cond_false]
  refine ⟨?_, ?_⟩
  · exact ⟨(by show s.data.length ≤ 4294967296; omega), (by show (sentTo s.sent c (pollN s)).length ≤ 4294967296; rw [sentTo_len]; omega)⟩
  · simp only [decide_true, Bool.not_true]
    exact F5_J4_is hs (by omega) (by omega) t0 t1
theorem arqWindow.calls (g : prodL L5) (hw : wfL L5 g) (hb : bkL L5 g ≤ 1048576) : FCalls Try.prog 5 (argsT S5 L5 g) [] (fun r _ => r = .bool true) fun _ _ => False := by
  obtain ⟨b, w, data, sent, c, t, u⟩ := g
  have h1 := bbytes data
  have h2 := blen (e := .i64) (fun x => by simp [bk, bk_i64]) sent
  have h3 : IntKind.u8.min ≤ t ∧ t ≤ IntKind.u8.max := hw.2.2.2.2.2.1
  have h4 : 0 ≤ t ∧ t ≤ 255 := by
    simpa [IntKind.min, IntKind.max, IntKind.bits, IntKind.signed] using h3
  simp only [bkL] at hb
  exact F5_ok _ _ _ (F5_is (s := ⟨b, w, data, sent⟩) (by dsimp only; omega) (by dsimp only; omega) (by dsimp only; omega) h4.1 h4.2)
end Go.Proofs.Ytofjpelbjehddaa
