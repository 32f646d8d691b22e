/-
  Proto: an encoding is of one message only.
-/
import Derived.Test.YtoclmkbjgmgekaaDoorPL
namespace Go.Proofs.YtoclmkbjgmgekaaDoor
set_option linter.unusedVariables false
set_option linter.unusedSimpArgs false
set_option linter.unusedSectionVars false
open Go.RowKit
theorem map_inj_on {α β : Type} {f : α → β} : ∀ {l m : List α}, (∀ x ∈ l, ∀ y ∈ m, f x = f y → x = y) → l.map f = m.map f → l = m
  | [], [], _, _ => rfl
  | [], _ :: _, _, h => by simp at h
  | _ :: _, [], _, h => by simp at h
  | x :: l, y :: m, hf, h => by
    simp only [List.map_cons, List.cons.injEq] at h
    rw [hf x (List.mem_cons_self ..) y (List.mem_cons_self ..) h.1, map_inj_on (fun x hx y hy => hf x (List.mem_cons_of_mem _ hx) y (List.mem_cons_of_mem _ hy)) h.2]
theorem bStr_inj {l m : List Int} (hl : ∀ x ∈ l, 0 ≤ x ∧ x ≤ 255) (hm : ∀ x ∈ m, 0 ≤ x ∧ x ≤ 255) (h : bStr l = bStr m) : l = m := by
  have h : (l.map fun n => UInt8.ofNat n.toNat).toArray = (m.map fun n => UInt8.ofNat n.toNat).toArray := congrArg ByteArray.data h
  have h : (l.map fun n => UInt8.ofNat n.toNat) = (m.map fun n => UInt8.ofNat n.toNat) := congrArg Array.toList h
  refine map_inj_on (fun x hx y hy e => ?_) h
  have := congrArg UInt8.toNat e
  have h1 := hl x hx
  have h2 := hm y hy
  rw [UInt8.toNat_ofNat', UInt8.toNat_ofNat'] at this
  omega
theorem u8_wf {n : Int} (h : IntKind.u8.min ≤ n ∧ n ≤ IntKind.u8.max) : 0 ≤ n ∧ n ≤ 255 := by
  simpa [IntKind.min, IntKind.max, IntKind.signed, IntKind.bits] using h
theorem digL_u8 {d : Dig} (h : wf_dig d) : ∀ x ∈ digL d, 0 ≤ x ∧ x ≤ 255 := by
  have : ∀ x ∈ digL d, IntKind.u8.min ≤ x ∧ x ≤ IntKind.u8.max := by
    unfold wf_dig at h
    unfold digL
    simp only [List.forall_mem_cons, List.not_mem_nil, false_implies, implies_true, and_true]
    exact h
  exact fun x hx => u8_wf (this x hx)
theorem dstr_inj {a b : Dig} (ha : wf_dig a) (hb : wf_dig b) (h : dstr a = dstr b) : a = b := by
  have := bStr_inj (digL_u8 ha) (digL_u8 hb) h
  obtain ⟨a0, a1, a2, a3, a4, a5, a6, a7, a8, a9, a10, a11, a12, a13, a14, a15, a16, a17, a18, a19, a20, a21, a22, a23, a24, a25, a26, a27, a28, a29, a30, a31⟩ := a
  obtain ⟨b0, b1, b2, b3, b4, b5, b6, b7, b8, b9, b10, b11, b12, b13, b14, b15, b16, b17, b18, b19, b20, b21, b22, b23, b24, b25, b26, b27, b28, b29, b30, b31⟩ := b
  simp only [digL, List.cons.injEq, and_true] at this
  simpa only [Dig.mk.injEq] using this
theorem numX_inj {a b : Int} (ha : inB a = true) (hb : inB b = true) (h : numX a = numX b) : a = b := by
  unfold inB at ha hb
  simp only [decide_eq_true_eq] at ha hb
  have na : ¬ (a < -1099511627776 ∨ 1099511627776 < a) := by omega
  have nb : ¬ (b < -1099511627776 ∨ 1099511627776 < b) := by omega
  unfold numX intB at h
  rw [if_neg na, if_neg nb] at h
  have h : decB a = decB b := (Sx.mk.inj h).2.1
  have h : Lib.itoa a = Lib.itoa b := by
    have := congrArg (fun s => s.data.toList) h
    simpa [decB] using this
  have h1 := num_itoa na
  rw [h, num_itoa nb] at h1
  exact (Prod.mk.inj h1).1.symm
theorem atomX_inj {a b : ByteArray} (h : atomX a = atomX b) : a = b := (Sx.mk.inj h).2.1
theorem listX_inj {a b : List Sx} (h : listX a = listX b) : a = b := (Sx.mk.inj h).2.2
theorem truB_inj {a b : Bool} (h : truB a = truB b) : a = b := by
  cases a <;> cases b <;> first | rfl | (revert h; decide)
theorem digsX_inj {a b : List Dig} (ha : ∀ d ∈ a, wf_dig d) (hb : ∀ d ∈ b, wf_dig d) (h : digsX a = digsX b) : a = b :=
  map_inj_on (fun _ hx _ hy e => dstr_inj (ha _ hx) (hb _ hy) (atomX_inj e)) h
theorem atomsX_inj {a b : List ByteArray} (h : atomsX a = atomsX b) : a = b := map_inj_on (fun _ _ _ _ e => atomX_inj e) h
theorem wf_rng_parts {r : Rng} (h : wf_rng r) : wf_dig r.low ∧ wf_dig r.high ∧ intP r.count ∧ wf_dig r.print ∧ ∀ d ∈ r.ids, wf_dig d := by
  have hc := wf_count h
  unfold wf_rng at h
  refine ⟨?_, ?_, hc, ?_, fun d hd => ?_⟩
  · unfold wf_dig; simp only [h, and_self]
  · unfold wf_dig; simp only [h, and_self]
  · unfold wf_dig; simp only [h, and_self]
  · simp only [h, hd]
theorem spanX_inj {a b : Rng} (ha : wf_rng a) (hb : wf_rng b) (na : inB a.count = true) (nb : inB b.count = true) (h : spanX a = spanX b) : a = b := by
  obtain ⟨a1, a2, _, a3, a4⟩ := wf_rng_parts ha
  obtain ⟨b1, b2, _, b3, b4⟩ := wf_rng_parts hb
  have := listX_inj h
  simp only [List.cons.injEq, and_true] at this
  obtain ⟨h1, h2, h3, h4, h5, h6⟩ := this
  obtain ⟨al, ah, aT, ac, ap, ai⟩ := a
  obtain ⟨bl', bh, bt, bc, bp, bi⟩ := b
  have e1 : al = bl' := dstr_inj a1 b1 (atomX_inj h1)
  have e2 : ah = bh := dstr_inj a2 b2 (atomX_inj h2)
  have e3 : aT = bt := truB_inj (atomX_inj h3)
  have e4 : ac = bc := numX_inj na nb h4
  have e5 : ap = bp := dstr_inj a3 b3 (atomX_inj h5)
  have e6 : ai = bi := digsX_inj a4 b4 (listX_inj h6)
  subst e1 e2 e3 e4 e5 e6; rfl
theorem rangesX_inj {a b : List Rng} (ha : ∀ r ∈ a, wf_rng r) (hb : ∀ r ∈ b, wf_rng r) (na : ∀ r ∈ a, inB r.count = true) (nb : ∀ r ∈ b, inB r.count = true) (h : rangesX a = rangesX b) : a = b :=
  map_inj_on (fun _ hx _ hy e => spanX_inj (ha _ hx) (hb _ hy) (na _ hx) (nb _ hy) e) h
theorem sigX_inj {a b : Sgn} (ha : wf_sgn a) (hb : wf_sgn b) (na : inB a.index = true) (nb : inB b.index = true) (h : sigX a = sigX b) : a = b := by
  have := listX_inj h
  simp only [List.cons.injEq, and_true] at this
  obtain ⟨h1, h2, h3, h4⟩ := this
  obtain ⟨ai, ar, ao, ap⟩ := a
  obtain ⟨bi, br, bo, bp⟩ := b
  have e1 : ai = bi := numX_inj na nb h1
  have e2 : ar = br := digsX_inj ha.2.1 hb.2.1 (listX_inj h2)
  have e3 : ao = bo := digsX_inj ha.2.2.1 hb.2.2.1 (listX_inj h3)
  have e4 : ap = bp := digsX_inj ha.2.2.2 hb.2.2.2 (listX_inj h4)
  subst e1 e2 e3 e4; rfl
theorem word_inj {a b : Int} (ha : ¬ (a < 1 ∨ 7 < a)) (hb : ¬ (b < 1 ∨ 7 < b)) (h : wordN a = wordN b) : a = b := by
  have ha : a = 1 ∨ a = 2 ∨ a = 3 ∨ a = 4 ∨ a = 5 ∨ a = 6 ∨ a = 7 := by omega
  have hb : b = 1 ∨ b = 2 ∨ b = 3 ∨ b = 4 ∨ b = 5 ∨ b = 6 ∨ b = 7 := by omega
  rcases ha with rfl | rfl | rfl | rfl | rfl | rfl | rfl <;> rcases hb with rfl | rfl | rfl | rfl | rfl | rfl | rfl <;> first | rfl | (exact absurd h (by decide))
theorem sgn_of {g : Sgn} (h : unsigned g = true) : g = sgn0 := by
  obtain ⟨i, a, b, c⟩ := g
  simpa [unsigned, sgn0] using h
theorem foreign_of {m : Msg} (h : foreign m = false) : bare m = ⟨0, ⟨#[]⟩, [], [], [], [], 0, ⟨#[]⟩, sgn0⟩ := by
  have hk : (bare m).kind = 0 := by
    unfold bare
    repeat' split
    all_goals rfl
  unfold foreign at h
  generalize bare m = b at h hk
  obtain ⟨k, n, i, r, p, q, c, t, g⟩ := b
  have hk : k = 0 := hk
  subst hk
  simp only [emptyB, Bool.not_eq_false', Bool.and_eq_true, decide_eq_true_eq, List.length_eq_zero_iff] at h
  obtain ⟨⟨⟨⟨⟨⟨⟨h1, h2⟩, h3⟩, h4⟩, h5⟩, h6⟩, h7⟩, h8⟩ := h
  rw [h1, h2, h3, h4, h5, h6, h7, sgn_of h8]
/-- A valid message is what its expression says. -/
theorem sexpX_inj {a b : Msg} (ha : wf_msg a) (hb : wf_msg b) (ka : ¬ (a.kind < 1 ∨ 7 < a.kind)) (kb : ¬ (b.kind < 1 ∨ 7 < b.kind)) (fa : foreign a = false) (fb : foreign b = false) (na : numbered a = true) (nb : numbered b = true) (h : sexpX a = sexpX b) : a = b := by
  have h := listX_inj h
  simp only [List.cons.injEq] at h
  have hk := word_inj ka kb (atomX_inj h.1)
  have hf := h.2
  clear h
  have fa := foreign_of fa
  have fb := foreign_of fb
  obtain ⟨_, aI, aR, _, _, aC, aS⟩ := ha
  obtain ⟨_, bI, bR, _, _, bC, bS⟩ := hb
  unfold numbered at na nb
  simp only [Bool.and_eq_true, List.all_eq_true] at na nb
  obtain ⟨na1, na2, na3⟩ := na
  obtain ⟨nb1, nb2, nb3⟩ := nb
  have ka' : a.kind = 1 ∨ a.kind = 2 ∨ a.kind = 3 ∨ a.kind = 4 ∨ a.kind = 5 ∨ a.kind = 6 ∨ a.kind = 7 := by omega
  obtain ⟨k, n1, i1, r1, p1, q1, c1, t1, g1⟩ := a
  obtain ⟨k', n2, i2, r2, p2, q2, c2, t2, g2⟩ := b
  simp only at *
  subst hk
  have code : ∀ {c : Int}, decide (0 ≤ c ∧ c ≤ 27) = true → inB c = true := by
    intro c hc
    simp only [decide_eq_true_eq, inB] at hc ⊢
    omega
  rcases ka' with rfl | rfl | rfl | rfl | rfl | rfl | rfl <;>
    simp only [bare, reduceIte, Int.reduceEq, Msg.mk.injEq, true_and, and_true] at fa fb <;>
    simp only [fieldsX, reduceIte, Int.reduceEq] at hf
  · obtain ⟨rfl, rfl, rfl, rfl, rfl, rfl, rfl⟩ := fa
    obtain ⟨rfl, rfl, rfl, rfl, rfl, rfl, rfl⟩ := fb
    rw [rangesX_inj aR bR na1 nb1 hf]
  · obtain ⟨rfl, rfl, rfl, rfl, rfl, rfl, rfl⟩ := fa
    obtain ⟨rfl, rfl, rfl, rfl, rfl, rfl, rfl⟩ := fb
    rw [digsX_inj aI bI hf]
  · obtain ⟨rfl, rfl, rfl, rfl, rfl, rfl, rfl⟩ := fa
    obtain ⟨rfl, rfl, rfl, rfl, rfl, rfl, rfl⟩ := fb
    rw [atomsX_inj hf]
  · obtain ⟨rfl, rfl, rfl, rfl, rfl, rfl, rfl, rfl⟩ := fa
    obtain ⟨rfl, rfl, rfl, rfl, rfl, rfl, rfl, rfl⟩ := fb
    rfl
  · obtain ⟨rfl, rfl, rfl, rfl, rfl⟩ := fa
    obtain ⟨rfl, rfl, rfl, rfl, rfl⟩ := fb
    simp only [List.cons.injEq, and_true] at hf
    obtain ⟨h1, h2, h3⟩ := hf
    have aW : wf_sgn g1 := aS
    have bW : wf_sgn g2 := bS
    rw [atomX_inj h1, digsX_inj aI bI (listX_inj h2), sigX_inj aW bW na2 nb2 h3]
  · obtain ⟨rfl, rfl, rfl, rfl, rfl, rfl⟩ := fa
    obtain ⟨rfl, rfl, rfl, rfl, rfl, rfl⟩ := fb
    simp only [List.cons.injEq, and_true] at hf
    rw [numX_inj (code na3) (code nb3) hf.1, atomX_inj hf.2]
  · obtain ⟨rfl, rfl, rfl, rfl, rfl, rfl, rfl⟩ := fa
    obtain ⟨rfl, rfl, rfl, rfl, rfl, rfl, rfl⟩ := fb
    rw [atomsX_inj hf]
end Go.Proofs.YtoclmkbjgmgekaaDoor
