import Derived.Test.YtpbkhdeehlikfaaDoorT4
/-
  Csexp: what is written is read back.
-/
namespace Go.Proofs.YtpbkhdeehlikfaaDoor
set_option linter.unusedVariables false
set_option linter.unusedSimpArgs false
set_option linter.unusedSectionVars false
open Go.RowKit

mutual
/-- The encoding, as a list. -/
def encL : Sx → List UInt8
  | ⟨b, a, l⟩ => if b = false then Lib.decDigits a.size ++ 58 :: bl a else 40 :: (encLs l ++ [41])
def encLs : List Sx → List UInt8
  | [] => []
  | x :: l => encL x ++ encLs l
end
mutual
theorem encB_bl : ∀ x : Sx, bl (encB x) = encL x
  | ⟨b, a, l⟩ => by
    simp only [encB, encL]
    split
    · rw [bl_app, bl_app, bl_dec, Lib.itoa, if_neg (by omega), List.append_assoc]; rfl
    · rw [bl_app, encBs_bl l]; rfl
theorem encBs_bl : ∀ (l : List Sx) (s : ByteArray), bl (encBs l s) = bl s ++ encLs l
  | [], s => by simp [encBs, encLs]
  | x :: l, s => by
    simp only [encBs, encLs]
    rw [encBs_bl l, bl_app, encB_bl x, List.append_assoc]
end
theorem num_go : ∀ (d : List UInt8) (n : Nat) (r : List UInt8), digs d = true → dv n d ≤ 65536 → 1 ≤ n → numR false n (d ++ 58 :: r) = .ok (dv n d, r)
  | [], n, r, _, _, _ => by
    rw [dv_nil, List.nil_append, numR, if_pos ⟨rfl, rfl⟩]
  | c :: d, n, r, h1, h2, h3 => by
    obtain ⟨c1, c2⟩ := (digsC c d).1 h1
    rw [dv_cons] at h2 ⊢
    have := dv_le d (10 * n + (c.toNat - 48))
    rw [List.cons_append, numR, if_neg (by omega), if_neg (by simp; omega), if_neg (by omega)]
    exact num_go d _ r c2 h2 (by omega)
theorem num_dec {u : Nat} (h : u ≤ 65536) (r : List UInt8) : numR true 0 (Lib.decDigits u ++ 58 :: r) = .ok (u, r) := by
  have h1 := dec_digs u
  have h2 := dec_dv u
  have h3 := dec_head u
  cases hd : Lib.decDigits u with
  | nil => exact absurd hd (dec_ne u)
  | cons c d =>
    rw [hd] at h1 h2 h3
    obtain ⟨c1, c2⟩ := (digsC c d).1 h1
    rw [dv_cons] at h2
    have hle := dv_le d (10 * 0 + (c.toNat - 48))
    rw [List.cons_append, numR, if_neg (by simp), if_neg (by simp; omega), if_neg (by omega)]
    by_cases h48 : c.toNat = 48
    · have hu : u = 0 := h3 (by simp [head48, h48])
      subst hu
      rw [Lib.decDigits_one (by omega)] at hd
      simp only [List.cons.injEq] at hd
      obtain ⟨-, rfl⟩ := hd
      rw [h48, List.nil_append, numR, if_pos ⟨rfl, rfl⟩]
    · rw [num_go d _ r c2 (by omega) (by omega), h2]
theorem atom_enc {a : List UInt8} (h : a.length ≤ 65536) (r : List UInt8) : atomR (Lib.decDigits a.length ++ 58 :: (a ++ r)) = .ok (a, r) := by
  unfold atomR atomG
  rw [num_dec h]
  simp only
  rw [if_neg (by simp), List.take_left, List.drop_left]
/-- The first byte of an encoding. -/
theorem enc_head (x : Sx) : ∃ c l, encL x = c :: l ∧ c.toNat ≠ 41 := by
  obtain ⟨b, a, l⟩ := x
  simp only [encL]
  split
  · have h1 := dec_digs a.size
    cases hd : Lib.decDigits a.size with
    | nil => exact absurd hd (dec_ne _)
    | cons c d =>
      rw [hd] at h1
      have := ((digsC c d).1 h1).1
      exact ⟨c, _, rfl, by omega⟩
  · exact ⟨40, _, rfl, by decide⟩
theorem rdL_enc {f : Nat → List UInt8 → Res (Sx × Nat × List UInt8) Int} {r : List UInt8} : ∀ (xs : List Sx) (m k : Nat) (acc : List Sx), (encLs xs).length < m →
    (∀ x ∈ xs, ∀ k' s, k ≤ k' → k' + nn x ≤ k + nns xs → f k' (encL x ++ s) = .ok (x, k' + nn x, s)) → rdL f m k (encLs xs ++ 41 :: r) acc = .ok (acc ++ xs, k + nns xs, r)
  | [], m, k, acc, hm, _ => by
    obtain ⟨m, rfl⟩ : ∃ m', m = m' + 1 := ⟨m - 1, by omega⟩
    simp [encLs, rdL, nns]
  | x :: xs, m, k, acc, hm, h => by
    simp only [encLs, List.length_append] at hm
    obtain ⟨m, rfl⟩ : ∃ m', m = m' + 1 := ⟨m - 1, by omega⟩
    obtain ⟨c, t, e, h41⟩ := enc_head x
    have hx := h x (by simp) k (encLs xs ++ 41 :: r) (Nat.le_refl _) (by simp only [nns]; omega)
    simp only [encLs, nns, List.append_assoc]
    rw [e] at hx ⊢
    rw [List.cons_append] at hx ⊢
    simp only [rdL, if_neg h41, hx]
    have hlen : 1 ≤ (encL x).length := by rw [e]; simp
    rw [rdL_enc xs m (k + nn x) (acc ++ [x]) (by omega) fun y hy k' s h1 h2 => h y (List.mem_cons_of_mem _ hy) k' s (by omega) (by simp only [nns]; omega)]
    simp [Nat.add_assoc]
theorem ck_mem : ∀ {l : List Sx}, ckRs l = 0 → ∀ x ∈ l, ckR x = 0
  | [], _, x, hx => by simp at hx
  | y :: l, h, x, hx => by
    simp only [ckRs] at h
    split at h
    · rename_i h0
      rcases List.mem_cons.1 hx with rfl | hx
      · exact h0
      · exact ck_mem h x hx
    · rename_i h0; exact absurd h h0
theorem dd_mem : ∀ {l : List Sx}, ∀ x ∈ l, dd x ≤ dds l
  | [], x, hx => by simp at hx
  | y :: l, x, hx => by
    simp only [dds]
    rcases List.mem_cons.1 hx with rfl | hx
    · omega
    · have := dd_mem x hx; omega
theorem rdS_enc : ∀ (d : Nat) (x : Sx) (k : Nat) (r : List UInt8), ckR x = 0 → dd x ≤ d → k + nn x ≤ 20000 → rdS d k (encL x ++ r) = .ok (x, k + nn x, r)
  | 0, x, _, _, _, h, _ => by have := dd_pos x; omega
  | d + 1, ⟨b, a, l⟩, k, r, h1, h2, h3 => by
    simp only [ckR, dd, nn] at h1 h2 h3
    simp only [encL, nn]
    cases b with
    | false =>
      simp only [if_true] at h1 h2 h3 ⊢
      have hl : l = [] := by
        by_cases hl : 0 < l.length
        · rw [if_pos hl] at h1; cases h1
        · exact List.eq_nil_of_length_eq_zero (by omega)
      subst hl
      have ha : (bl a).length ≤ 65536 := by
        rw [bl_len]
        by_cases ha : 65536 < a.size
        · rw [if_neg (by simp), if_pos ha] at h1; cases h1
        · omega
      have hat := atom_enc ha r
      have hd := dec_digs a.size
      rw [bl_len] at hat
      rw [List.append_assoc, List.cons_append]
      cases hc : Lib.decDigits a.size with
      | nil => exact absurd hc (dec_ne _)
      | cons c t =>
        rw [hc] at hat hd
        have := ((digsC c t).1 hd).1
        rw [List.cons_append] at hat ⊢
        rw [rdS, if_neg (by omega), if_pos (by omega), hat]
        simp [mk_bl]
    | true =>
      simp only [Bool.true_eq_false, if_false] at h1 h2 h3 ⊢
      have ha : a = ⟨#[]⟩ := Classical.not_not.1 fun ha => by rw [if_pos ha] at h1; cases h1
      subst ha
      rw [if_neg (by simp)] at h1
      have he : (40 : UInt8) :: (encLs l ++ [41]) ++ r = 40 :: (encLs l ++ 41 :: r) := by simp
      rw [he, rdS, if_neg (by omega), if_neg (by decide), rdL_enc l _ (k + 1) [] (by simp; omega) fun x hx k' s q1 q2 => rdS_enc d x k' s (ck_mem h1 x hx) (by have := dd_mem x hx; omega) (by omega)]
      simp [Nat.add_assoc]
theorem ck_valid {x : Sx} (h : ckG x = 0) : ckR x = 0 ∧ nn x ≤ 20000 ∧ dd x ≤ 12 := by
  unfold ckG at h
  obtain ⟨_, k2⟩ := madd_is x 0 1
  split at h
  · cases h
  · rename_i hm
    have := k2 (by simpa using hm)
    rw [shape_eq] at h
    exact ⟨h, by omega, by omega⟩
/-- What is written is read back. -/
theorem read_enc {x : Sx} (h : ckG x = 0) (r : List UInt8) : rdS 12 0 (encL x ++ r) = .ok (x, nn x, r) := by
  obtain ⟨h1, h2, h3⟩ := ck_valid h
  rw [rdS_enc 12 x 0 r h1 h3 (by omega), Nat.zero_add]
end Go.Proofs.YtpbkhdeehlikfaaDoor

/-
  Csexp: what is read is an encoding; what more bytes change.
-/
namespace Go.Proofs.YtpbkhdeehlikfaaDoor
set_option linter.unusedVariables false
set_option linter.unusedSimpArgs false
set_option linter.unusedSectionVars false
open Go.RowKit

abbrev Rdr := Nat → List UInt8 → Res (Sx × Nat × List UInt8) Int
theorem rdL_fuel {f : Rdr} (hf : ∀ k l x k' r, f k l = .ok (x, k', r) → r.length < l.length) : ∀ (m m' k : Nat) (l : List UInt8) (acc : List Sx), l.length < m → l.length < m' → rdL f m k l acc = rdL f m' k l acc
  | 0, _, _, _, _, h, _ => absurd h (Nat.not_lt_zero _)
  | _ + 1, 0, _, _, _, _, h => absurd h (Nat.not_lt_zero _)
  | m + 1, m' + 1, k, [], acc, _, _ => rfl
  | m + 1, m' + 1, k, c :: l, acc, h, h' => by
    simp only [rdL]
    split
    · rfl
    · cases hx : f k (c :: l) with
      | err e => rfl
      | ok a =>
        obtain ⟨x, k', r⟩ := a
        have := hf _ _ _ _ _ hx
        exact rdL_fuel hf m m' k' r _ (by omega) (by omega)
theorem numR_ext : ∀ (l : List UInt8) (first : Bool) (n : Nat) (s : List UInt8), (∀ m r, numR first n l = .ok (m, r) → numR first n (l ++ s) = .ok (m, r ++ s)) ∧ (numR first n l = .err 12 → numR first n (l ++ s) = .err 12)
  | [], first, n, s => by simp [numR]
  | c :: l, first, n, s => by
    rw [List.cons_append]
    simp only [numR]
    split
    · simp
    · split
      · simp
      · split
        · simp
        · exact numR_ext l false _ s
theorem atomR_ext (l s : List UInt8) : (∀ a r, atomR l = .ok (a, r) → atomR (l ++ s) = .ok (a, r ++ s)) ∧ (atomR l = .err 12 → atomR (l ++ s) = .err 12) := by
  obtain ⟨k1, k2⟩ := numR_ext l true 0 s
  unfold atomR atomG
  cases hn : numR true 0 l with
  | err e =>
    refine ⟨fun a r h => by simp at h, fun h => ?_⟩
    simp only [Res.err.injEq] at h
    subst h
    rw [k2 hn]
  | ok v =>
    obtain ⟨n, r⟩ := v
    rw [k1 _ _ hn]
    simp only
    by_cases hr : r.length < n
    · rw [if_pos hr]
      exact ⟨fun a r h => by simp at h, fun h => by simp at h⟩
    · rw [if_neg hr, if_neg (by simp; omega)]
      refine ⟨fun a r' h => ?_, fun h => by simp at h⟩
      simp only [Res.ok.injEq, Prod.mk.injEq] at h
      obtain ⟨rfl, rfl⟩ := h
      rw [List.take_append_of_le_length (by omega), List.drop_append_of_le_length (by omega)]
def Ext (f : Rdr) : Prop := ∀ (k : Nat) (l s : List UInt8), (∀ x k' r, f k l = .ok (x, k', r) → f k (l ++ s) = .ok (x, k', r ++ s)) ∧ (f k l = .err 12 → f k (l ++ s) = .err 12)
theorem rdL_ext {f : Rdr} (hf : Ext f) : ∀ (m k : Nat) (l s : List UInt8) (acc : List Sx), (∀ xs k' r, rdL f m k l acc = .ok (xs, k', r) → rdL f m k (l ++ s) acc = .ok (xs, k', r ++ s)) ∧ (rdL f m k l acc = .err 12 → rdL f m k (l ++ s) acc = .err 12)
  | 0, k, l, s, acc => by simp [rdL]
  | m + 1, k, [], s, acc => by simp [rdL]
  | m + 1, k, c :: l, s, acc => by
    rw [List.cons_append]
    simp only [rdL]
    split
    · simp
    · obtain ⟨k1, k2⟩ := hf k (c :: l) s
      rw [List.cons_append] at k1 k2
      cases hx : f k (c :: l) with
      | err e =>
        refine ⟨fun xs k' r h => by simp at h, fun h => ?_⟩
        simp only [Res.err.injEq] at h
        subst h
        rw [k2 hx]
      | ok a =>
        obtain ⟨x, k', r⟩ := a
        rw [k1 _ _ _ hx]
        exact rdL_ext hf m k' r s _
theorem rdS_lt (d : Nat) : ∀ (k : Nat) (l : List UInt8) (x : Sx) (k' : Nat) (r : List UInt8), rdS d k l = .ok (x, k', r) → r.length < l.length := fun k l x k' r h => by
  by_cases hk : k ≤ 20000
  · obtain ⟨⟨p, p1, p2, _⟩, _⟩ := (rdS_sound d k l hk).1 x k' r h
    have := List.length_pos_iff.2 p1
    rw [p2, List.length_append]; omega
  · cases l with
    | nil => simp [rdS] at h
    | cons c l => cases d with
      | zero => simp [rdS] at h
      | succ d => rw [rdS, if_pos (by omega)] at h; cases h
theorem rdS_ext : ∀ d : Nat, Ext (rdS d)
  | 0 => fun k l s => by
    cases l with
    | nil => simp [rdS]
    | cons c l => simp [rdS]
  | d + 1 => fun k l s => by
    cases l with
    | nil => simp [rdS]
    | cons c l =>
      rw [List.cons_append]
      simp only [rdS]
      split
      · simp
      · split
        · obtain ⟨k1, k2⟩ := atomR_ext (c :: l) s
          rw [List.cons_append] at k1 k2
          cases ha : atomR (c :: l) with
          | err e =>
            refine ⟨fun x k' r h => by simp at h, fun h => ?_⟩
            simp only [Res.err.injEq] at h
            subst h
            rw [k2 ha]
          | ok v =>
            obtain ⟨a, r⟩ := v
            rw [k1 _ _ ha]
            simp
        · obtain ⟨k1, k2⟩ := rdL_ext (rdS_ext d) ((l ++ s).length + 1) (k + 1) l s []
          rw [rdL_fuel (rdS_lt d) (l.length + 1) ((l ++ s).length + 1) (k + 1) l [] (by omega) (by simp; omega)]
          cases ha : rdL (rdS d) ((l ++ s).length + 1) (k + 1) l [] with
          | err e =>
            refine ⟨fun x k' r h => by simp at h, fun h => ?_⟩
            simp only [Res.err.injEq] at h
            subst h
            rw [k2 ha]
          | ok v =>
            obtain ⟨xs, k', r⟩ := v
            rw [k1 _ _ _ ha]
            simp
theorem rd_err {l : List UInt8} {e : Int} (h : rdS 12 0 l = .err e) : e = 11 ∨ e = 12 := (rdS_sound 12 0 l (by omega)).2 e h
/-- No prefix of what is short is anything else. -/
theorem short_prefix {l s : List UInt8} (h : rdS 12 0 (l ++ s) = .err 11) : rdS 12 0 l = .err 11 := by
  obtain ⟨k1, k2⟩ := rdS_ext 12 0 l s
  cases hx : rdS 12 0 l with
  | ok a =>
    obtain ⟨x, k', r⟩ := a
    rw [k1 _ _ _ hx] at h; cases h
  | err e =>
    rcases rd_err hx with rfl | rfl
    · rfl
    · rw [k2 hx] at h; cases h
/-- Every proper prefix of an encoding is short. -/
theorem enc_prefix {x : Sx} (h : ckG x = 0) {l s : List UInt8} (he : encL x = l ++ s) (hs : s ≠ []) : rdS 12 0 l = .err 11 := by
  have hr := read_enc h []
  rw [List.append_nil, he] at hr
  obtain ⟨k1, k2⟩ := rdS_ext 12 0 l s
  cases hx : rdS 12 0 l with
  | ok a =>
    obtain ⟨y, k', r⟩ := a
    rw [k1 _ _ _ hx] at hr
    simp only [Res.ok.injEq, Prod.mk.injEq, List.append_eq_nil_iff] at hr
    exact absurd hr.2.2.2 hs
  | err e =>
    rcases rd_err hx with rfl | rfl
    · rfl
    · rw [k2 hx] at hr; cases hr
end Go.Proofs.YtpbkhdeehlikfaaDoor

/-
  Csexp: what is read is an encoding.
-/
namespace Go.Proofs.YtpbkhdeehlikfaaDoor
set_option linter.unusedVariables false
set_option linter.unusedSimpArgs false
set_option linter.unusedSectionVars false
open Go.RowKit

theorem numR_inv : ∀ (l : List UInt8) (first : Bool) (n m : Nat) (r : List UInt8), numR first n l = .ok (m, r) → ∃ d, digs d = true ∧ l = d ++ 58 :: r ∧ m = dv n d ∧ (first = true → d ≠ []) ∧ (first = false → n = 0 → d = [])
  | [], _, _, _, _, h => by simp [numR] at h
  | c :: l, first, n, m, r, h => by
    simp only [numR] at h
    split at h
    · rename_i h0
      simp only [Res.ok.injEq, Prod.mk.injEq] at h
      obtain ⟨rfl, rfl⟩ := h
      have : c = 58 := UInt8.toNat_inj.1 h0.1
      subst this
      exact ⟨[], rfl, rfl, (dv_nil _).symm, fun e => (by rw [h0.2] at e; cases e), fun _ _ => rfl⟩
    · split at h
      · cases h
      · rename_i h1
        split at h
        · cases h
        · obtain ⟨d, d1, d2, d3, _, d5⟩ := numR_inv l false _ m r h
          refine ⟨c :: d, (digsC c d).2 ⟨by omega, d1⟩, by rw [d2]; rfl, by rw [dv_cons]; exact d3, fun _ => by simp, fun e1 e2 => absurd (Or.inr (Or.inr ⟨e1, e2⟩)) h1⟩
theorem num_inv {l : List UInt8} {m : Nat} {r : List UInt8} (h : numR true 0 l = .ok (m, r)) : l = Lib.decDigits m ++ 58 :: r ∧ m ≤ 65536 := by
  have hm := (numR_ok _ _ _ _ _ h).2 (by omega)
  cases l with
  | nil => simp [numR] at h
  | cons c l =>
    simp only [numR] at h
    rw [if_neg (by simp)] at h
    split at h
    · cases h
    · rename_i h1
      split at h
      · cases h
      · obtain ⟨d, d1, d2, d3, _, d5⟩ := numR_inv l false _ m r h
        have hc : digs (c :: d) = true := (digsC c d).2 ⟨by omega, d1⟩
        have e : dv 0 (c :: d) = m := by rw [dv_cons]; exact d3.symm
        have hu := dec_uniq _ (c :: d) rfl hc (by simp) (by
          by_cases h48 : c.toNat = 48
          · right
            rw [d5 rfl (by omega), show c = 48 from UInt8.toNat_inj.1 h48]
          · left
            simp [head48, h48])
        rw [e] at hu
        rw [hu, d2]
        exact ⟨rfl, hm⟩
theorem atom_inv {l a r : List UInt8} (h : atomR l = .ok (a, r)) : l = Lib.decDigits a.length ++ 58 :: (a ++ r) ∧ a.length ≤ 65536 := by
  unfold atomR atomG at h
  cases hn : numR true 0 l with
  | err e => rw [hn] at h; cases h
  | ok v =>
    obtain ⟨n, q⟩ := v
    rw [hn] at h
    simp only at h
    by_cases hq : q.length < n
    · rw [if_pos hq] at h; cases h
    · rw [if_neg hq] at h
      simp only [Res.ok.injEq, Prod.mk.injEq] at h
      obtain ⟨rfl, rfl⟩ := h
      obtain ⟨k1, k2⟩ := num_inv hn
      have e : (q.take n).length = n := by rw [List.length_take]; omega
      rw [e, List.take_append_drop]
      exact ⟨k1, k2⟩
def Canon (d : Nat) (f : Rdr) : Prop := ∀ k l x k' r, f k l = .ok (x, k', r) → l = encL x ++ r ∧ ckR x = 0 ∧ dd x ≤ d ∧ k' = k + nn x
theorem rdL_canon {d : Nat} {f : Rdr} (hf : Canon d f) : ∀ (m k : Nat) (l : List UInt8) (acc xs : List Sx) (k' : Nat) (r : List UInt8), rdL f m k l acc = .ok (xs, k', r) →
    ∃ ys, xs = acc ++ ys ∧ l = encLs ys ++ 41 :: r ∧ ckRs ys = 0 ∧ dds ys ≤ d ∧ k' = k + nns ys
  | 0, _, _, _, _, _, _, h => by simp [rdL] at h
  | m + 1, k, [], acc, xs, k', r, h => by simp [rdL] at h
  | m + 1, k, c :: l, acc, xs, k', r, h => by
    simp only [rdL] at h
    split at h
    · rename_i h41
      simp only [Res.ok.injEq, Prod.mk.injEq] at h
      obtain ⟨rfl, rfl, rfl⟩ := h
      have : c = 41 := UInt8.toNat_inj.1 h41
      subst this
      exact ⟨[], by simp, rfl, rfl, Nat.zero_le _, rfl⟩
    · cases hx : f k (c :: l) with
      | err e => rw [hx] at h; cases h
      | ok a =>
        obtain ⟨x, k1, r1⟩ := a
        rw [hx] at h
        obtain ⟨e1, e2, e3, e4⟩ := hf _ _ _ _ _ hx
        obtain ⟨ys, y1, y2, y3, y4, y5⟩ := rdL_canon hf m k1 r1 _ xs k' r h
        refine ⟨x :: ys, by rw [y1]; simp, by rw [e1, y2]; simp [encLs], ?_, ?_, ?_⟩
        · simp only [ckRs]; rw [if_pos e2]; exact y3
        · simp only [dds]; omega
        · simp only [nns]; omega
theorem rdS_canon : ∀ d : Nat, Canon d (rdS d)
  | 0 => fun k l x k' r h => by
    cases l with
    | nil => simp [rdS] at h
    | cons c l => simp [rdS] at h
  | d + 1 => fun k l x k' r h => by
    cases l with
    | nil => simp [rdS] at h
    | cons c l =>
      simp only [rdS] at h
      split at h
      · cases h
      · split at h
        · cases ha : atomR (c :: l) with
          | err e => rw [ha] at h; cases h
          | ok v =>
            obtain ⟨a, q⟩ := v
            rw [ha] at h
            simp only [Res.ok.injEq, Prod.mk.injEq] at h
            obtain ⟨rfl, rfl, rfl⟩ := h
            obtain ⟨k1, k2⟩ := atom_inv ha
            have hsz : (⟨a.toArray⟩ : ByteArray).size = a.length := by rw [← bl_len, bl_mk]
            refine ⟨?_, ?_, ?_, ?_⟩
            · rw [k1]
              simp only [encL, if_true, hsz, bl_mk, List.append_assoc, List.cons_append]
            · simp only [ckR, if_true, List.length_nil]
              rw [if_neg (by omega), if_neg (by omega)]
            · simp [dd]
            · simp [nn]
        · rename_i h40
          cases ha : rdL (rdS d) (l.length + 1) (k + 1) l [] with
          | err e => rw [ha] at h; cases h
          | ok v =>
            obtain ⟨xs, k1, q⟩ := v
            rw [ha] at h
            simp only [Res.ok.injEq, Prod.mk.injEq] at h
            obtain ⟨rfl, rfl, rfl⟩ := h
            obtain ⟨ys, y1, y2, y3, y4, y5⟩ := rdL_canon (rdS_canon d) _ _ _ _ _ _ _ ha
            rw [List.nil_append] at y1
            subst y1
            have : c = 40 := UInt8.toNat_inj.1 (Classical.not_not.1 h40)
            subst this
            refine ⟨?_, ?_, ?_, ?_⟩
            · rw [y2]
              simp [encL]
            · simp [ckR, y3]
            · simp only [dd, Bool.true_eq_false, if_false]; omega
            · simp only [nn, Bool.true_eq_false, if_false]; omega
/-- What is read is valid, and the bytes that were read are its encoding. -/
theorem read_canon {l : List UInt8} {x : Sx} {k : Nat} {r : List UInt8} (h : rdS 12 0 l = .ok (x, k, r)) : l = encL x ++ r ∧ ckG x = 0 := by
  obtain ⟨e1, e2, e3, e4⟩ := rdS_canon 12 _ _ _ _ _ h
  refine ⟨e1, ?_⟩
  have hk : k ≤ 20000 := ((rdS_sound 12 0 l (by omega)).1 x k r h).2.2
  unfold ckG
  rw [(madd_is x 0 1).1 ⟨by omega, by omega⟩, if_neg (by simp), shape_eq]
  exact e2
end Go.Proofs.YtpbkhdeehlikfaaDoor

/- What functions come to: printed by exf.py. -/
namespace Go.Proofs.YtpbkhdeehlikfaaDoor
set_option linter.unusedVariables false
set_option linter.unusedSimpArgs false
set_option linter.unusedSectionVars false
open Go.RowKit
attribute [local irreducible] dfun dround
/-- quilt/quiltref01.encode -/
def H40 : List (Nat × Hint) := [(5, ⟨[((1, []), none)], [(1, .pt 0 0), (3, .leaf), (4, .leaf)], [.cells [.leaf, .leaf, .leaf]], [.str, .int .i64, .bool, .str, .sl .sexp]⟩)]
def J40 : List (Nat × Hint) := []
abbrev S40 : List Sh := [.ag [.leaf, .leaf, .leaf]]
abbrev L40 : List Lf := [.bool, .str, .sl .sexp]
def spz40 (Z : prodL L40 → Prop) : Sp := ⟨S40, L40, Z, fun g => .str (encB ⟨g.1, g.2.1, g.2.2.1⟩), fun _ => none⟩
def F40_B2 (K : Kn) (Z : prodL L40 → Prop) (W2 : prodL [.str, .int .i64, .bool, .str, .sl .sexp] → Prop) (s_1 : ByteArray) (i_1 : Int) (x1_1 : Bool) (x2_1 : ByteArray) (x3_1 : List Sx) : Prop :=
  bif decide (i_1 < (x3_1.length : Int)) then (
    At x3_1 i_1 fun u3 =>
  Z (u3.isList, u3.atom, u3.list, ()) ∧
  Room (s_1.size + (encB ⟨u3.isList, u3.atom, u3.list⟩).size) 1 (
  W2 (s_1 ++ (encB ⟨u3.isList, u3.atom, u3.list⟩), IntKind.i64.wrap (i_1 + 1), x1_1, x2_1, x3_1, ())))
  else (
    Room (s_1.size + (⟨#[41]⟩ : ByteArray).size) 1 (
  K (.str (s_1 ++ (⟨#[41]⟩ : ByteArray))) []))
def F40_L2 (K : Kn) (Z : prodL L40 → Prop) (g : prodL [.str, .int .i64, .bool, .str, .sl .sexp]) : Prop :=
  LoopW (γ := prodL [.str, .int .i64, .bool, .str, .sl .sexp]) (fun V y => F40_B2 K Z V y.1 y.2.1 y.2.2.1 y.2.2.2.1 y.2.2.2.2.1) g
def F40 (Z : prodL L40 → Prop) (g : prodL L40) (K : Kn) : Prop :=
  bif !g.1 then (
    sp32.pre ((g.2.1.size : Int), ()) ∧
    Room ((decB (g.2.1.size : Int)).size + (⟨#[58]⟩ : ByteArray).size) 1 (
    Room (((decB (g.2.1.size : Int)) ++ (⟨#[58]⟩ : ByteArray)).size + g.2.1.size) 1 (
    K (.str (((decB (g.2.1.size : Int)) ++ (⟨#[58]⟩ : ByteArray)) ++ g.2.1)) [])))
  else (
    F40_L2 K Z ((⟨#[40]⟩ : ByteArray), 0, g.1, g.2.1, g.2.2.1, ()))
theorem F40_eq (Z : prodL L40 → Prop) (g : prodL L40) (K X : Kn) : F40 Z g K = dfun D (gamX [] [(32, true, sp32), (40, true, spz40 Z)]) (isRaw []) H40 J40 33 [.tmp 2] (codeOf Tryd.f40) (argsT S40 L40 g) [] (settle0 K) X := by kernel_rfl
theorem F40_ok (Z : prodL L40 → Prop) (hZ : (spz40 Z).Ok Tryd.prog 40 true) (g : prodL L40) (K X : Kn) (h : F40 Z g K) : FCalls Tryd.prog 40 (argsT S40 L40 g) [] K X :=
  FCalls.settle0 (dfun_sound (Γ := gamX [] [(32, true, sp32), (40, true, spz40 Z)]) (mu := isRaw []) (H := H40) (J := J40) D_ok (gamX_ok (rs := []) (l := [(32, true, sp32), (40, true, spz40 Z)]) (fun p hp => by cases hp) (by intro p hp; simp only [List.mem_cons, List.not_mem_nil, or_false] at hp; rcases hp with rfl | rfl <;> first | exact sp32_ok | exact hZ)) gamX_det rfl Tryd.func40 (c := codeOf Tryd.f40) rfl Tryd.ntmps40 (rs := [.tmp 2]) Tryd.results40 (by unfold enters; rw [Tryd.func40]; kernel_rfl) (Nat.le_of_ble_eq_true (by kernel_rfl)) (X := X) (c0 := 0) (Eq.mp (F40_eq Z g K X) h))
end Go.Proofs.YtpbkhdeehlikfaaDoor

/-
  Csexp: encode (the reference's).
-/
namespace Go.Proofs.YtpbkhdeehlikfaaDoor
set_option linter.unusedVariables false
set_option linter.unusedSimpArgs false
set_option linter.unusedSectionVars false
open Go.RowKit

mutual
theorem encL_len : ∀ x : Sx, bkS x ≤ lim → (encL x).length ≤ 22 * bkS x
  | ⟨b, a, l⟩, h => by
    simp only [bkS] at h ⊢
    simp only [encL]
    have hl := lim_eq
    split
    · have := dec_len 19 a.size (by omega)
      have := bl_len a
      simp only [List.length_append, List.length_cons]; omega
    · have := encLs_len l (by omega)
      simp only [List.length_append, List.length_cons, List.length_nil]; omega
theorem encLs_len : ∀ l : List Sx, bkSs l ≤ lim → (encLs l).length ≤ 22 * bkSs l
  | [], _ => by simp [encLs, bkSs]
  | x :: l, h => by
    simp only [bkSs] at h ⊢
    have := encL_len x (by omega)
    have := encLs_len l (by omega)
    simp only [encLs, List.length_append]; omega
end
theorem encB_size {x : Sx} (h : bkS x ≤ lim) : (encB x).size ≤ 22 * bkS x := by
  rw [← bl_len, encB_bl]; exact encL_len x h
theorem size_app (a b : ByteArray) : (a ++ b).size = a.size + b.size := ByteArray.size_append
theorem F40_is {Z : prodL L40 → Prop} {b : Bool} {a : ByteArray} {l : List Sx} {K : Kn} (hk : bkS ⟨b, a, l⟩ ≤ lim) (hZ : ∀ x ∈ l, Z (x.isList, x.atom, x.list, ())) (h : K (.str (encB ⟨b, a, l⟩)) []) : F40 Z (b, a, l, ()) K := by
  obtain ⟨hs, hsz, hbl, _⟩ := small hk
  have hl := lim_eq
  unfold F40
  simp only [encB] at h
  dsimp only [Lf.ty, prodL] at h ⊢
  cases b
  · simp only [if_true, Bool.not_false, cond_true] at h ⊢
    have hn : intP (a.size : Int) := (⟨by omega, by omega⟩ : -9223372036854775808 ≤ (a.size : Int) ∧ (a.size : Int) ≤ 9223372036854775807)
    have hd := decB_size hn
    refine ⟨hn, ?_, ?_, h⟩
    · show ((decB (a.size : Int)).size + 1) * 1 ≤ 140737488355328
      omega
    · rw [size_app]
      show ((decB (a.size : Int)).size + 1 + a.size) * 1 ≤ 140737488355328
      omega
  · simp only [Bool.true_eq_false, if_false, Bool.not_true, cond_false] at h ⊢
    unfold F40_L2
    refine LoopW.fold l (fun n (s : ByteArray) => (s, (n : Int), true, a, l, ())) (fun r _ s => K (.str (encBs r s ++ ⟨#[41]⟩)) [] ∧ s.size + 22 * bkSs r ≤ 22 * lim + 1) (a0 := ⟨#[40]⟩) rfl ⟨h, by show 1 + _ ≤ _; omega⟩ (fun s hp W => ?_) (fun n hn r s hr hp W hW => ?_)
    · obtain ⟨p1, p2⟩ := hp
      unfold F40_B2
      rw [bif_dec, if_neg (by dsimp only; omega)]
      refine ⟨?_, p1⟩
      show (s.size + 1) * 1 ≤ 140737488355328
      simp only [bkSs] at p2
      omega
    · obtain ⟨p1, p2⟩ := hp
      unfold F40_B2
      rw [bif_dec, if_pos (by dsimp only; omega)]
      have hx : bkS l[n] ≤ bkSs l := mem_bk (List.getElem_mem hn)
      have hz := encB_size (x := l[n]) (by omega)
      simp only [bkSs] at p2
      refine At_of hn ⟨hZ _ (List.getElem_mem hn), ?_, ?_⟩
      · rw [Sx.eta]
        dsimp only
        omega
      · rw [Sx.eta, wrapS hn hs]
        refine hW (s ++ encB l[n]) ⟨p1, ?_⟩
        rw [size_app]; omega
def sp40 : Sp := spz40 bkP
theorem sp40_all : ∀ n, (spz40 fun g => bkP g ∧ nodesS ⟨g.1, g.2.1, g.2.2.1⟩ < n).Ok Tryd.prog 40 true
  | 0 => ⟨fun _ _ _ h _ => absurd h.2 (Nat.not_lt_zero _), fun _ _ _ => rfl, fun _ => rfl, fun _ _ => ⟨rfl, rfl⟩⟩
  | n + 1 => ⟨fun g _ X hp h => F40_ok _ (sp40_all n) _ _ X (F40_is hp.1 (fun x hx => ⟨((small hp.1).2.2.2 x hx).1, by have := ((small hp.1).2.2.2 x hx).2; have := hp.2; dsimp only at *; omega⟩) h), fun _ _ _ => rfl, fun _ => rfl, fun _ _ => ⟨rfl, rfl⟩⟩
theorem sp40_ok : sp40.Ok Tryd.prog 40 true :=
  ⟨fun g K X hp h => (sp40_all (nodesS ⟨g.1, g.2.1, g.2.2.1⟩ + 1)).calls g K X ⟨hp, Nat.lt_succ_self _⟩ h, fun _ _ _ => rfl, fun _ => rfl, fun _ _ => ⟨rfl, rfl⟩⟩
/-- Encode, of both. -/
def enT (x : Sx) : ByteArray × Int := if ckG x = 0 then (encB x, 0) else (⟨#[]⟩, ckG x)
end Go.Proofs.YtpbkhdeehlikfaaDoor

/- What functions come to: printed by exf.py. -/
namespace Go.Proofs.YtpbkhdeehlikfaaDoor
set_option linter.unusedVariables false
set_option linter.unusedSimpArgs false
set_option linter.unusedSectionVars false
open Go.RowKit
attribute [local irreducible] dfun dround
/-- quilt/quiltref01.Encode -/
def H24 : List (Nat × Hint) := []
def J24 : List (Nat × Hint) := []
abbrev S24 : List Sh := [.ag [.leaf, .leaf, .leaf]]
abbrev L24 : List Lf := [.bool, .str, .sl .sexp]
def F24 (g : prodL L24) (K : Kn) : Prop :=
  sp25.pre (g.1, g.2.1, g.2.2.1, ()) ∧
  bif !decide (ckN ⟨g.1, g.2.1, g.2.2.1⟩ = 0) then (
    K (.tu [.str (⟨#[]⟩ : ByteArray), .int .i64 (ckN ⟨g.1, g.2.1, g.2.2.1⟩)]) [])
  else (
    sp40.pre (g.1, g.2.1, g.2.2.1, ()) ∧
  K (.tu [.str (encB ⟨g.1, g.2.1, g.2.2.1⟩), .int .i64 0]) [])
theorem F24_eq (g : prodL L24) (K X : Kn) : F24 g K = dfun D (gamX [] [(25, true, sp25), (40, true, sp40)]) (isRaw []) H24 J24 12 [.tmp 2, .tmp 3] (codeOf Tryd.f24) (argsT S24 L24 g) [] (settle0 K) X := by kernel_rfl
theorem F24_ok (g : prodL L24) (K X : Kn) (h : F24 g K) : FCalls Tryd.prog 24 (argsT S24 L24 g) [] K X :=
  FCalls.settle0 (dfun_sound (Γ := gamX [] [(25, true, sp25), (40, true, sp40)]) (mu := isRaw []) (H := H24) (J := J24) D_ok (gamX_ok (rs := []) (l := [(25, true, sp25), (40, true, sp40)]) (fun p hp => by cases hp) (by intro p hp; simp only [List.mem_cons, List.not_mem_nil, or_false] at hp; rcases hp with rfl | rfl <;> first | exact sp25_ok | exact sp40_ok)) gamX_det rfl Tryd.func24 (c := codeOf Tryd.f24) rfl Tryd.ntmps24 (rs := [.tmp 2, .tmp 3]) Tryd.results24 (by unfold enters; rw [Tryd.func24]; kernel_rfl) (Nat.le_of_ble_eq_true (by kernel_rfl)) (X := X) (c0 := 0) (Eq.mp (F24_eq g K X) h))
end Go.Proofs.YtpbkhdeehlikfaaDoor

/-
  Csexp: Encode, as a contract (csexp's under a hypothesis: strings.Builder).
-/
namespace Go.Proofs.YtpbkhdeehlikfaaDoor
set_option linter.unusedVariables false
set_option linter.unusedSimpArgs false
set_option linter.unusedSectionVars false
open Go.RowKit

def sp24 : Sp := ⟨S24, L24, bkP, fun g => .tu [.str (enT ⟨g.1, g.2.1, g.2.2.1⟩).1, .int .i64 (enT ⟨g.1, g.2.1, g.2.2.1⟩).2], fun _ => none⟩
theorem sp24_ok : sp24.Ok Tryd.prog 24 true :=
  ⟨by
    rintro ⟨b, a, l, ⟨⟩⟩ K X q1 h
    have h : K (.tu [.str (enT ⟨b, a, l⟩).1, .int .i64 (enT ⟨b, a, l⟩).2]) [] := h
    refine F24_ok (b, a, l, ()) K X ⟨q1, ?_⟩
    unfold enT at h
    rw [check_eq] at h
    dsimp only
    rw [bif_ndec]
    by_cases h0 : ckN ⟨b, a, l⟩ = 0
    · rw [if_pos h0] at h
      rw [if_pos h0]
      exact ⟨q1, h⟩
    · rw [if_neg h0] at h
      rw [if_neg h0]
      exact h, fun _ _ _ => rfl, fun _ => rfl, fun _ _ => ⟨rfl, rfl⟩⟩
/-- csexp.Encode, where its contract is at hand. -/
def EncodeOk : Prop := sp24.Ok Tryd.prog 23 true
def sp23 : Sp := ⟨S24, L24, fun g => bkP g ∧ EncodeOk, sp24.res, fun _ => none⟩
theorem sp23_ok : sp23.Ok Tryd.prog 23 true :=
  ⟨fun g K X hp h => hp.2.calls g K X hp.1 h, fun _ _ _ => rfl, fun _ => rfl, fun _ _ => ⟨rfl, rfl⟩⟩
end Go.Proofs.YtpbkhdeehlikfaaDoor

/- What functions come to: printed by exf.py. -/
namespace Go.Proofs.YtpbkhdeehlikfaaDoor
set_option linter.unusedVariables false
set_option linter.unusedSimpArgs false
set_option linter.unusedSectionVars false
open Go.RowKit
attribute [local irreducible] dfun dround
/-- quilt/quiltlaw01.CsexpCheck -/
def H6 : List (Nat × Hint) := []
def J6 : List (Nat × Hint) := []
abbrev S6 : List Sh := [.ag [.leaf, .leaf, .leaf]]
abbrev L6 : List Lf := [.bool, .str, .sl .sexp]
def F6 (g : prodL L6) (K : Kn) : Prop :=
  sp17.pre (g.1, g.2.1, g.2.2.1, ()) ∧
  bif grT ⟨g.1, g.2.1, g.2.2.1⟩ then (
    sp11.pre (()) ∧
    K (.bool true) [])
  else (
    sp23.pre (g.1, g.2.1, g.2.2.1, ()) ∧
  sp24.pre (g.1, g.2.1, g.2.2.1, ()) ∧
  sp22.pre (g.1, g.2.1, g.2.2.1, ()) ∧
  sp25.pre (g.1, g.2.1, g.2.2.1, ()) ∧
  bif decide (ckG ⟨g.1, g.2.1, g.2.2.1⟩ = ckN ⟨g.1, g.2.1, g.2.2.1⟩) then (
    bif decide ((enT ⟨g.1, g.2.1, g.2.2.1⟩).1 = (enT ⟨g.1, g.2.1, g.2.2.1⟩).1) then (
      bif decide ((enT ⟨g.1, g.2.1, g.2.2.1⟩).2 = (enT ⟨g.1, g.2.1, g.2.2.1⟩).2) then (
        sp11.pre (()) ∧
        K (.bool true) [])
      else (
        K (.bool false) []))
    else (
      K (.bool false) []))
  else (
    K (.bool false) []))
theorem F6_eq (g : prodL L6) (K X : Kn) : F6 g K = dfun D (gamX [] [(11, true, sp11), (17, true, sp17), (22, true, sp22), (23, true, sp23), (24, true, sp24), (25, true, sp25)]) (isRaw []) H6 J6 38 [.tmp 2] (codeOf Tryd.f6) (argsT S6 L6 g) [] (settle0 K) X := by kernel_rfl
theorem F6_ok (g : prodL L6) (K X : Kn) (h : F6 g K) : FCalls Tryd.prog 6 (argsT S6 L6 g) [] K X :=
  FCalls.settle0 (dfun_sound (Γ := gamX [] [(11, true, sp11), (17, true, sp17), (22, true, sp22), (23, true, sp23), (24, true, sp24), (25, true, sp25)]) (mu := isRaw []) (H := H6) (J := J6) D_ok (gamX_ok (rs := []) (l := [(11, true, sp11), (17, true, sp17), (22, true, sp22), (23, true, sp23), (24, true, sp24), (25, true, sp25)]) (fun p hp => by cases hp) (by intro p hp; simp only [List.mem_cons, List.not_mem_nil, or_false] at hp; rcases hp with rfl | rfl | rfl | rfl | rfl | rfl <;> first | exact sp11_ok | exact sp17_ok | exact sp22_ok | exact sp23_ok | exact sp24_ok | exact sp25_ok)) gamX_det rfl Tryd.func6 (c := codeOf Tryd.f6) rfl Tryd.ntmps6 (rs := [.tmp 2]) Tryd.results6 (by unfold enters; rw [Tryd.func6]; kernel_rfl) (Nat.le_of_ble_eq_true (by kernel_rfl)) (X := X) (c0 := 0) (Eq.mp (F6_eq g K X) h))
/-- quilt/quiltlaw01.CsexpRoundTrip -/
def H7 : List (Nat × Hint) := []
def J7 : List (Nat × Hint) := [(2, ⟨[((2, []), none)], [(1, .leaf), (2, .pt 0 0), (18, .leaf)], [.cells [.leaf, .leaf, .leaf]], [.str, .bool, .bool, .str, .sl .sexp]⟩)]
abbrev S7 : List Sh := [.ag [.leaf, .leaf, .leaf], .leaf]
abbrev L7 : List Lf := [.bool, .str, .sl .sexp, .str]
def F7_J2 (K : Kn) (rest_1 : ByteArray) (t_1 : Bool) (x1_1 : Bool) (x2_1 : ByteArray) (x3_1 : List Sx) : Prop :=
  bif t_1 then (
    sp11.pre (()) ∧
    K (.bool true) [])
  else (
    sp23.pre (x1_1, x2_1, x3_1, ()) ∧
  bif !decide ((enT ⟨x1_1, x2_1, x3_1⟩).2 = 0) then (
    bif decide ((enT ⟨x1_1, x2_1, x3_1⟩).1 = (⟨#[]⟩ : ByteArray)) then (
      sp22.pre (x1_1, x2_1, x3_1, ()) ∧
      bif decide ((enT ⟨x1_1, x2_1, x3_1⟩).2 = ckG ⟨x1_1, x2_1, x3_1⟩) then (
        sp11.pre (()) ∧
        K (.bool true) [])
      else (
        K (.bool false) []))
    else (
      K (.bool false) []))
  else (
    Room (((enT ⟨x1_1, x2_1, x3_1⟩).1).size + rest_1.size) 1 (
  sp12.pre (((enT ⟨x1_1, x2_1, x3_1⟩).1) ++ rest_1, ()) ∧
  sp14.pre ((enT ⟨x1_1, x2_1, x3_1⟩).1, ()) ∧
  bif decide ((rdT (((enT ⟨x1_1, x2_1, x3_1⟩).1) ++ rest_1)).2.2 = 0) then (
    bif decide ((dcT ((enT ⟨x1_1, x2_1, x3_1⟩).1)).2 = 0) then (
      bif decide ((rdT (((enT ⟨x1_1, x2_1, x3_1⟩).1) ++ rest_1)).2.1 = (((enT ⟨x1_1, x2_1, x3_1⟩).1).size : Int)) then (
        sp16.pre (x1_1, x2_1, x3_1, (rdT (((enT ⟨x1_1, x2_1, x3_1⟩).1) ++ rest_1)).1.isList, (rdT (((enT ⟨x1_1, x2_1, x3_1⟩).1) ++ rest_1)).1.atom, (rdT (((enT ⟨x1_1, x2_1, x3_1⟩).1) ++ rest_1)).1.list, ()) ∧
        bif smR ⟨x1_1, x2_1, x3_1⟩ ⟨((rdT (((enT ⟨x1_1, x2_1, x3_1⟩).1) ++ rest_1)).1.isList), ((rdT (((enT ⟨x1_1, x2_1, x3_1⟩).1) ++ rest_1)).1.atom), ((rdT (((enT ⟨x1_1, x2_1, x3_1⟩).1) ++ rest_1)).1.list)⟩ then (
          sp16.pre (x1_1, x2_1, x3_1, (dcT ((enT ⟨x1_1, x2_1, x3_1⟩).1)).1.isList, (dcT ((enT ⟨x1_1, x2_1, x3_1⟩).1)).1.atom, (dcT ((enT ⟨x1_1, x2_1, x3_1⟩).1)).1.list, ()) ∧
          bif smR ⟨x1_1, x2_1, x3_1⟩ ⟨((dcT ((enT ⟨x1_1, x2_1, x3_1⟩).1)).1.isList), ((dcT ((enT ⟨x1_1, x2_1, x3_1⟩).1)).1.atom), ((dcT ((enT ⟨x1_1, x2_1, x3_1⟩).1)).1.list)⟩ then (
            sp11.pre (()) ∧
            K (.bool true) [])
          else (
            K (.bool false) []))
        else (
          K (.bool false) []))
      else (
        K (.bool false) []))
    else (
      K (.bool false) []))
  else (
    K (.bool false) []))))
def F7 (g : prodL L7) (K : Kn) : Prop :=
  sp17.pre (g.1, g.2.1, g.2.2.1, ()) ∧
  bif grT ⟨g.1, g.2.1, g.2.2.1⟩ then (
    F7_J2 K g.2.2.2.1 true g.1 g.2.1 g.2.2.1)
  else (
    F7_J2 K g.2.2.2.1 (decide (100 < (g.2.2.2.1.size : Int))) g.1 g.2.1 g.2.2.1)
theorem F7_eq (g : prodL L7) (K X : Kn) : F7 g K = dfun D (gamX [] [(11, true, sp11), (12, false, sp12), (14, false, sp14), (16, true, sp16), (17, true, sp17), (22, true, sp22), (23, true, sp23)]) (isRaw []) H7 J7 76 [.tmp 4] (codeOf Tryd.f7) (argsT S7 L7 g) [] (settle0 K) X := by kernel_rfl
theorem F7_ok (g : prodL L7) (K X : Kn) (h : F7 g K) : FCalls Tryd.prog 7 (argsT S7 L7 g) [] K X :=
  FCalls.settle0 (dfun_sound (Γ := gamX [] [(11, true, sp11), (12, false, sp12), (14, false, sp14), (16, true, sp16), (17, true, sp17), (22, true, sp22), (23, true, sp23)]) (mu := isRaw []) (H := H7) (J := J7) D_ok (gamX_ok (rs := []) (l := [(11, true, sp11), (12, false, sp12), (14, false, sp14), (16, true, sp16), (17, true, sp17), (22, true, sp22), (23, true, sp23)]) (fun p hp => by cases hp) (by intro p hp; simp only [List.mem_cons, List.not_mem_nil, or_false] at hp; rcases hp with rfl | rfl | rfl | rfl | rfl | rfl | rfl <;> first | exact sp11_ok | exact sp12_ok | exact sp14_ok | exact sp16_ok | exact sp17_ok | exact sp22_ok | exact sp23_ok)) gamX_det rfl Tryd.func7 (c := codeOf Tryd.f7) rfl Tryd.ntmps7 (rs := [.tmp 4]) Tryd.results7 (by unfold enters; rw [Tryd.func7]; kernel_rfl) (Nat.le_of_ble_eq_true (by kernel_rfl)) (X := X) (c0 := 0) (Eq.mp (F7_eq g K X) h))
/-- quilt/quiltlaw01.CsexpCanonical -/
def H8 : List (Nat × Hint) := []
def J8 : List (Nat × Hint) := [(9, ⟨[((3, []), none), ((6, []), none)], [(0, .leaf), (3, .pt 0 0), (4, .leaf), (6, .pt 1 0), (7, .leaf), (76, .leaf)], [.cells [.leaf, .leaf, .leaf], .cells [.leaf, .leaf, .leaf]], [.str, .int .i64, .int .i64, .bool, .bool, .str, .sl .sexp, .bool, .str, .sl .sexp]⟩)]
abbrev S8 : List Sh := [.leaf]
abbrev L8 : List Lf := [.str]
def F8_J2 (K : Kn) (s_1 : ByteArray) (n_1 : Int) (f_1 : Int) (t_1 : Bool) (x1_1 : Bool) (x2_1 : ByteArray) (x3_1 : List Sx) (y1_1 : Bool) (y2_1 : ByteArray) (y3_1 : List Sx) : Prop :=
  bif t_1 then (
    K (.bool false) [])
  else (
    bif decide (n_1 < (s_1.size : Int)) then (
    bif decide (f_1 = 12) then (
      sp11.pre (()) ∧
      K (.bool true) [])
    else (
      K (.bool false) []))
  else (
    bif decide (f_1 = 0) then (
    sp16.pre (x1_1, x2_1, x3_1, y1_1, y2_1, y3_1, ()) ∧
    bif smR ⟨x1_1, x2_1, x3_1⟩ ⟨y1_1, y2_1, y3_1⟩ then (
      sp11.pre (()) ∧
      K (.bool true) [])
    else (
      K (.bool false) []))
  else (
    K (.bool false) [])))
def F8 (g : prodL L8) (K : Kn) : Prop :=
  bif decide (300 < (g.1.size : Int)) then (
    sp11.pre (()) ∧
    K (.bool true) [])
  else (
    sp12.pre (g.1, ()) ∧
  sp14.pre (g.1, ()) ∧
  bif !decide ((rdT g.1).2.2 = 0) then (
    bif decide ((rdT g.1).2.1 = 0) then (
      bif decide ((dcT g.1).2 = (rdT g.1).2.2) then (
        bif decide (((((rdT g.1).1.list).length : Nat) : Int) = 0) then (
          bif decide ((rdT g.1).1.atom = (⟨#[]⟩ : ByteArray)) then (
            sp11.pre (()) ∧
            K (.bool true) [])
          else (
            K (.bool false) []))
        else (
          K (.bool false) []))
      else (
        K (.bool false) []))
    else (
      K (.bool false) []))
  else (
    sp23.pre ((rdT g.1).1.isList, (rdT g.1).1.atom, (rdT g.1).1.list, ()) ∧
  bif !decide ((enT ⟨((rdT g.1).1.isList), ((rdT g.1).1.atom), ((rdT g.1).1.list)⟩).2 = 0) then (
    F8_J2 K g.1 ((rdT g.1).2.1) ((dcT g.1).2) true ((rdT g.1).1.isList) ((rdT g.1).1.atom) ((rdT g.1).1.list) ((dcT g.1).1.isList) ((dcT g.1).1.atom) ((dcT g.1).1.list))
  else (
    bif decide ((rdT g.1).2.1 < 1) then (
      F8_J2 K g.1 ((rdT g.1).2.1) ((dcT g.1).2) true ((rdT g.1).1.isList) ((rdT g.1).1.atom) ((rdT g.1).1.list) ((dcT g.1).1.isList) ((dcT g.1).1.atom) ((dcT g.1).1.list))
    else (
      bif decide ((g.1.size : Int) < (rdT g.1).2.1) then (
        F8_J2 K g.1 ((rdT g.1).2.1) ((dcT g.1).2) true ((rdT g.1).1.isList) ((rdT g.1).1.atom) ((rdT g.1).1.list) ((dcT g.1).1.isList) ((dcT g.1).1.atom) ((dcT g.1).1.list))
      else (
        (0 : Int) ≤ 0 ∧ 0 ≤ (rdT g.1).2.1 ∧ (rdT g.1).2.1 ≤ (g.1.size : Int) ∧
        bif !decide ((enT ⟨((rdT g.1).1.isList), ((rdT g.1).1.atom), ((rdT g.1).1.list)⟩).1 = g.1.extract (0 : Int).toNat ((rdT g.1).2.1).toNat) then (
          F8_J2 K g.1 ((rdT g.1).2.1) ((dcT g.1).2) true ((rdT g.1).1.isList) ((rdT g.1).1.atom) ((rdT g.1).1.list) ((dcT g.1).1.isList) ((dcT g.1).1.atom) ((dcT g.1).1.list))
        else (
          sp22.pre ((rdT g.1).1.isList, (rdT g.1).1.atom, (rdT g.1).1.list, ()) ∧
          F8_J2 K g.1 ((rdT g.1).2.1) ((dcT g.1).2) (!decide (ckG ⟨((rdT g.1).1.isList), ((rdT g.1).1.atom), ((rdT g.1).1.list)⟩ = 0)) ((rdT g.1).1.isList) ((rdT g.1).1.atom) ((rdT g.1).1.list) ((dcT g.1).1.isList) ((dcT g.1).1.atom) ((dcT g.1).1.list)))))))
theorem F8_eq (g : prodL L8) (K X : Kn) : F8 g K = dfun D (gamX [] [(11, true, sp11), (12, false, sp12), (14, false, sp14), (16, true, sp16), (22, true, sp22), (23, true, sp23)]) (isRaw []) H8 J8 96 [.tmp 2] (codeOf Tryd.f8) (argsT S8 L8 g) [] (settle0 K) X := by kernel_rfl
theorem F8_ok (g : prodL L8) (K X : Kn) (h : F8 g K) : FCalls Tryd.prog 8 (argsT S8 L8 g) [] K X :=
  FCalls.settle0 (dfun_sound (Γ := gamX [] [(11, true, sp11), (12, false, sp12), (14, false, sp14), (16, true, sp16), (22, true, sp22), (23, true, sp23)]) (mu := isRaw []) (H := H8) (J := J8) D_ok (gamX_ok (rs := []) (l := [(11, true, sp11), (12, false, sp12), (14, false, sp14), (16, true, sp16), (22, true, sp22), (23, true, sp23)]) (fun p hp => by cases hp) (by intro p hp; simp only [List.mem_cons, List.not_mem_nil, or_false] at hp; rcases hp with rfl | rfl | rfl | rfl | rfl | rfl <;> first | exact sp11_ok | exact sp12_ok | exact sp14_ok | exact sp16_ok | exact sp22_ok | exact sp23_ok)) gamX_det rfl Tryd.func8 (c := codeOf Tryd.f8) rfl Tryd.ntmps8 (rs := [.tmp 2]) Tryd.results8 (by unfold enters; rw [Tryd.func8]; kernel_rfl) (Nat.le_of_ble_eq_true (by kernel_rfl)) (X := X) (c0 := 0) (Eq.mp (F8_eq g K X) h))
/-- quilt/quiltlaw01.CsexpShort -/
def H9 : List (Nat × Hint) := []
def J9 : List (Nat × Hint) := [(2, ⟨[((3, []), none)], [(1, .leaf), (2, .leaf), (3, .pt 0 0), (24, .leaf)], [.cells [.leaf, .leaf, .leaf]], [.str, .int .u16, .bool, .bool, .str, .sl .sexp]⟩), (10, ⟨[], [(1, .leaf), (2, .leaf)], [], [.str, .int .u16]⟩), (15, ⟨[], [], [], []⟩)]
abbrev S9 : List Sh := [.ag [.leaf, .leaf, .leaf], .leaf, .leaf]
abbrev L9 : List Lf := [.bool, .str, .sl .sexp, .str, .int .u16]
def F9_J5 (K : Kn) : Prop :=
  sp11.pre (()) ∧
  K (.bool true) []
def F9_J6 (K : Kn) (s_3 : ByteArray) (at_3 : Int) : Prop :=
  sp12.pre (s_3, ()) ∧
  bif decide ((rdT s_3).2.2 = 11) then (
    ¬ (IntKind.i64.wrap ((s_3.size : Int) + 1)) = (0 : Int) ∧
    (0 : Int) ≤ 0 ∧ 0 ≤ Int.tmod (IntKind.i64.wrap at_3) (IntKind.i64.wrap ((s_3.size : Int) + 1)) ∧ Int.tmod (IntKind.i64.wrap at_3) (IntKind.i64.wrap ((s_3.size : Int) + 1)) ≤ (s_3.size : Int) ∧
    sp12.pre (s_3.extract (0 : Int).toNat (Int.tmod (IntKind.i64.wrap at_3) (IntKind.i64.wrap ((s_3.size : Int) + 1))).toNat, ()) ∧
    bif !decide ((rdT (s_3.extract (0 : Int).toNat (Int.tmod (IntKind.i64.wrap at_3) (IntKind.i64.wrap ((s_3.size : Int) + 1))).toNat)).2.2 = 11) then (
      K (.bool false) [])
    else (
      F9_J5 K ))
  else (
    F9_J5 K )
def F9_J2 (K : Kn) (s_1 : ByteArray) (at_1 : Int) (t_1 : Bool) (x1_1 : Bool) (x2_1 : ByteArray) (x3_1 : List Sx) : Prop :=
  bif t_1 then (
    sp11.pre (()) ∧
    K (.bool true) [])
  else (
    sp23.pre (x1_1, x2_1, x3_1, ()) ∧
  bif decide ((enT ⟨x1_1, x2_1, x3_1⟩).2 = 0) then (
    bif decide ((((enT ⟨x1_1, x2_1, x3_1⟩).1).size : Int) = 0) then (
      K (.bool false) [])
    else (
      ¬ (((enT ⟨x1_1, x2_1, x3_1⟩).1).size : Int) = (0 : Int) ∧
    (0 : Int) ≤ 0 ∧ 0 ≤ Int.tmod (IntKind.i64.wrap at_1) (((enT ⟨x1_1, x2_1, x3_1⟩).1).size : Int) ∧ Int.tmod (IntKind.i64.wrap at_1) (((enT ⟨x1_1, x2_1, x3_1⟩).1).size : Int) ≤ (((enT ⟨x1_1, x2_1, x3_1⟩).1).size : Int) ∧
    sp12.pre (((enT ⟨x1_1, x2_1, x3_1⟩).1).extract (0 : Int).toNat (Int.tmod (IntKind.i64.wrap at_1) (((enT ⟨x1_1, x2_1, x3_1⟩).1).size : Int)).toNat, ()) ∧
    bif !decide ((rdT (((enT ⟨x1_1, x2_1, x3_1⟩).1).extract (0 : Int).toNat (Int.tmod (IntKind.i64.wrap at_1) (((enT ⟨x1_1, x2_1, x3_1⟩).1).size : Int)).toNat)).2.2 = 11) then (
      K (.bool false) [])
    else (
      F9_J6 K s_1 at_1)))
  else (
    F9_J6 K s_1 at_1))
def F9 (g : prodL L9) (K : Kn) : Prop :=
  sp17.pre (g.1, g.2.1, g.2.2.1, ()) ∧
  bif grT ⟨g.1, g.2.1, g.2.2.1⟩ then (
    F9_J2 K g.2.2.2.1 g.2.2.2.2.1 true g.1 g.2.1 g.2.2.1)
  else (
    F9_J2 K g.2.2.2.1 g.2.2.2.2.1 (decide (300 < (g.2.2.2.1.size : Int))) g.1 g.2.1 g.2.2.1)
theorem F9_eq (g : prodL L9) (K X : Kn) : F9 g K = dfun D (gamX [] [(11, true, sp11), (12, false, sp12), (17, true, sp17), (23, true, sp23)]) (isRaw []) H9 J9 74 [.tmp 6] (codeOf Tryd.f9) (argsT S9 L9 g) [] (settle0 K) X := by kernel_rfl
theorem F9_ok (g : prodL L9) (K X : Kn) (h : F9 g K) : FCalls Tryd.prog 9 (argsT S9 L9 g) [] K X :=
  FCalls.settle0 (dfun_sound (Γ := gamX [] [(11, true, sp11), (12, false, sp12), (17, true, sp17), (23, true, sp23)]) (mu := isRaw []) (H := H9) (J := J9) D_ok (gamX_ok (rs := []) (l := [(11, true, sp11), (12, false, sp12), (17, true, sp17), (23, true, sp23)]) (fun p hp => by cases hp) (by intro p hp; simp only [List.mem_cons, List.not_mem_nil, or_false] at hp; rcases hp with rfl | rfl | rfl | rfl <;> first | exact sp11_ok | exact sp12_ok | exact sp17_ok | exact sp23_ok)) gamX_det rfl Tryd.func9 (c := codeOf Tryd.f9) rfl Tryd.ntmps9 (rs := [.tmp 6]) Tryd.results9 (by unfold enters; rw [Tryd.func9]; kernel_rfl) (Nat.le_of_ble_eq_true (by kernel_rfl)) (X := X) (c0 := 0) (Eq.mp (F9_eq g K X) h))
/-- quilt/quiltlaw01.CsexpStream -/
def H10 : List (Nat × Hint) := [(6, ⟨[((4, []), some .sexp)], [(3, .leaf), (4, .oa .sexp 0), (18, .leaf), (19, .leaf), (20, .leaf)], [.arr .sexp], [.str, .sl .sexp, .int .i64, .int .i64, .sl .sexp]⟩), (15, ⟨[((42, []), none)], [(3, .leaf), (42, .oa .sexp 0), (43, .leaf), (44, .leaf)], [.arr .sexp], [.str, .int .i64, .int .i64, .sl .sexp]⟩)]
def J10 : List (Nat × Hint) := [(13, ⟨[((4, []), none)], [(3, .leaf), (4, .oa .sexp 0), (18, .leaf), (19, .leaf), (20, .leaf)], [.arr .sexp], [.str, .sl .sexp, .int .i64, .int .i64, .sl .sexp]⟩), (19, ⟨[((42, []), none)], [(3, .leaf), (12, .leaf), (42, .oa .sexp 0), (43, .leaf), (44, .leaf), (71, .leaf)], [.arr .sexp], [.str, .int .i64, .int .i64, .int .i64, .bool, .sl .sexp]⟩)]
abbrev S10 : List Sh := [.leaf]
abbrev L10 : List Lf := [.sl .sexp]
def F10_J10 (K : Kn) (W7 : prodL [.str, .sl .sexp, .int .i64, .int .i64, .sl .sexp] → Prop) (s_9 : ByteArray) (t_9 : List Sx) (t2_9 : Int) (t3_9 : Int) (sent_9 : List Sx) : Prop :=
  W7 (s_9, t_9, t2_9, IntKind.i64.wrap (t3_9 + 1), sent_9, ())
def F10_J15 (K : Kn) (W12 : prodL [.str, .int .i64, .int .i64, .sl .sexp] → Prop) (s_14 : ByteArray) (n_14 : Int) (t_14 : Int) (t2_14 : Int) (t3_14 : Bool) (t4_14 : List Sx) : Prop :=
  bif t3_14 then (
    K (.bool false) [])
  else (
    (0 : Int) ≤ n_14 ∧ n_14 ≤ (s_14.size : Int) ∧ (s_14.size : Int) ≤ (s_14.size : Int) ∧
  W12 (s_14.extract n_14.toNat (s_14.size : Int).toNat, t_14, IntKind.i64.wrap (t2_14 + 1), t4_14, ()))
def F10_B12 (K : Kn) (W12 : prodL [.str, .int .i64, .int .i64, .sl .sexp] → Prop) (s_11 : ByteArray) (t_11 : Int) (t2_11 : Int) (t3_11 : List Sx) : Prop :=
  bif decide (t2_11 < t_11) then (
    0 ≤ t2_11 ∧ t2_11.toNat < t3_11.length ∧
  atI t3_11 t2_11.toNat fun x13 =>
  sp12.pre (s_11, ()) ∧
  bif !decide ((rdT s_11).2.2 = 0) then (
    F10_J15 K W12 s_11 ((rdT s_11).2.1) t_11 t2_11 true t3_11)
  else (
    bif decide ((rdT s_11).2.1 < 1) then (
      F10_J15 K W12 s_11 ((rdT s_11).2.1) t_11 t2_11 true t3_11)
    else (
      bif decide ((s_11.size : Int) < (rdT s_11).2.1) then (
        F10_J15 K W12 s_11 ((rdT s_11).2.1) t_11 t2_11 true t3_11)
      else (
        sp16.pre (x13.isList, x13.atom, x13.list, (rdT s_11).1.isList, (rdT s_11).1.atom, (rdT s_11).1.list, ()) ∧
        F10_J15 K W12 s_11 ((rdT s_11).2.1) t_11 t2_11 (!(smR ⟨x13.isList, x13.atom, x13.list⟩ ⟨((rdT s_11).1.isList), ((rdT s_11).1.atom), ((rdT s_11).1.list)⟩)) t3_11))))
  else (
    bif decide (s_11 = (⟨#[]⟩ : ByteArray)) then (
    sp11.pre (()) ∧
    K (.bool true) [])
  else (
    K (.bool false) []))
def F10_L12 (K : Kn) (g : prodL [.str, .int .i64, .int .i64, .sl .sexp]) : Prop :=
  LoopW (γ := prodL [.str, .int .i64, .int .i64, .sl .sexp]) (fun V y => F10_B12 K V y.1 y.2.1 y.2.2.1 y.2.2.2.1) g
def F10_B7 (K : Kn) (W7 : prodL [.str, .sl .sexp, .int .i64, .int .i64, .sl .sexp] → Prop) (s_6 : ByteArray) (t_6 : List Sx) (t2_6 : Int) (t3_6 : Int) (sent_6 : List Sx) : Prop :=
  bif decide (t3_6 < t2_6) then (
    At t_6 t3_6 fun u8 =>
  sp17.pre (u8.isList, u8.atom, u8.list, ()) ∧
  bif grT ⟨u8.isList, u8.atom, u8.list⟩ then (
    sp11.pre (()) ∧
    K (.bool true) [])
  else (
    sp23.pre (u8.isList, u8.atom, u8.list, ()) ∧
  bif decide ((enT ⟨u8.isList, u8.atom, u8.list⟩).2 = 0) then (
    Room (s_6.size + ((enT ⟨u8.isList, u8.atom, u8.list⟩).1).size) 1 (
    Room (sent_6.length + [(⟨u8.isList, u8.atom, u8.list⟩ : Sx)].length) 48 (
    F10_J10 K W7 (s_6 ++ ((enT ⟨u8.isList, u8.atom, u8.list⟩).1)) t_6 t2_6 t3_6 (sent_6 ++ [(⟨u8.isList, u8.atom, u8.list⟩ : Sx)]))))
  else (
    F10_J10 K W7 s_6 t_6 t2_6 t3_6 sent_6)))
  else (
    F10_L12 K (s_6, (sent_6.length : Int), 0, sent_6, ()))
def F10_L7 (K : Kn) (g : prodL [.str, .sl .sexp, .int .i64, .int .i64, .sl .sexp]) : Prop :=
  LoopW (γ := prodL [.str, .sl .sexp, .int .i64, .int .i64, .sl .sexp]) (fun V y => F10_B7 K V y.1 y.2.1 y.2.2.1 y.2.2.2.1 y.2.2.2.2.1) g
def F10 (g : prodL L10) (K : Kn) : Prop :=
  bif decide (8 < (g.1.length : Int)) then (
    sp11.pre (()) ∧
    K (.bool true) [])
  else (
    F10_L7 K ((⟨#[]⟩ : ByteArray), g.1, (g.1.length : Int), 0, [], ()))
theorem F10_eq (g : prodL L10) (K X : Kn) : F10 g K = dfun D (gamX [] [(11, true, sp11), (12, false, sp12), (16, true, sp16), (17, true, sp17), (23, true, sp23)]) (isRaw []) H10 J10 81 [.tmp 2] (codeOf Tryd.f10) (argsT S10 L10 g) [] (settle0 K) X := by kernel_rfl
theorem F10_ok (g : prodL L10) (K X : Kn) (h : F10 g K) : FCalls Tryd.prog 10 (argsT S10 L10 g) [] K X :=
  FCalls.settle0 (dfun_sound (Γ := gamX [] [(11, true, sp11), (12, false, sp12), (16, true, sp16), (17, true, sp17), (23, true, sp23)]) (mu := isRaw []) (H := H10) (J := J10) D_ok (gamX_ok (rs := []) (l := [(11, true, sp11), (12, false, sp12), (16, true, sp16), (17, true, sp17), (23, true, sp23)]) (fun p hp => by cases hp) (by intro p hp; simp only [List.mem_cons, List.not_mem_nil, or_false] at hp; rcases hp with rfl | rfl | rfl | rfl | rfl <;> first | exact sp11_ok | exact sp12_ok | exact sp16_ok | exact sp17_ok | exact sp23_ok)) gamX_det rfl Tryd.func10 (c := codeOf Tryd.f10) rfl Tryd.ntmps10 (rs := [.tmp 2]) Tryd.results10 (by unfold enters; rw [Tryd.func10]; kernel_rfl) (Nat.le_of_ble_eq_true (by kernel_rfl)) (X := X) (c0 := 0) (Eq.mp (F10_eq g K X) h))
end Go.Proofs.YtpbkhdeehlikfaaDoor

/-
  Csexp: the laws Check, RoundTrip, Canonical, Short, where Encode's contract is at hand.
-/
namespace Go.Proofs.YtpbkhdeehlikfaaDoor
set_option linter.unusedVariables false
set_option linter.unusedSimpArgs false
set_option linter.unusedSectionVars false
open Go.RowKit

theorem csexpCheck.under (hB : EncodeOk) (g : prodL L6) (hw : wfL L6 g) (hb : bkL L6 g ≤ 1048576) : FCalls Tryd.prog 6 (argsT S6 L6 g) [] (fun r _ => r = .bool true) fun _ _ => False := by
  obtain ⟨b, a, l, ⟨⟩⟩ := g
  have hk : bkS ⟨b, a, l⟩ ≤ lim := by
    have := bk_le hb
    rw [lim_eq]; omega
  refine F6_ok _ _ _ ?_
  unfold F6
  dsimp only
  refine ⟨hk, ?_⟩
  cases hg : grT ⟨b, a, l⟩ with
  | true => exact ⟨trivial, rfl⟩
  | false =>
    refine ⟨⟨hk, hB⟩, hk, hk, hk, ?_⟩
    rw [check_eq, decide_eq_true rfl, cond_true, decide_eq_true rfl, cond_true, decide_eq_true rfl, cond_true]
    exact ⟨trivial, rfl⟩
theorem en_ok {x : Sx} (h : ckG x = 0) : enT x = (encB x, 0) := by unfold enT; rw [if_pos h]
theorem en_no {x : Sx} (h : ckG x ≠ 0) : enT x = (⟨#[]⟩, ckG x) := by unfold enT; rw [if_neg h]
theorem rdT_ok {s : ByteArray} {x : Sx} {k : Nat} {r : List UInt8} (h : rdS 12 0 (bl s) = .ok (x, k, r)) : rdT s = (x, (s.size : Int) - (r.length : Int), 0) := by unfold rdT; rw [h]
theorem rdT_no {s : ByteArray} {e : Int} (h : rdS 12 0 (bl s) = .err e) : rdT s = (sx0, 0, e) := by unfold rdT; rw [h]; rfl
theorem rdT_enc {x : Sx} (h : ckG x = 0) (r : ByteArray) : rdT (encB x ++ r) = (x, ((encB x).size : Int), 0) := by
  rw [rdT_ok (s := encB x ++ r) (by rw [bl_app, encB_bl]; exact read_enc h (bl r)), size_app, bl_len]
  simp only [Prod.mk.injEq, true_and, and_true]; omega
theorem dcT_enc {x : Sx} (h : ckG x = 0) : dcT (encB x) = (x, 0) := by
  have := rdT_enc h ⟨#[]⟩
  have e : encB x ++ (⟨#[]⟩ : ByteArray) = encB x := by apply bl_inj; rw [bl_app]; exact List.append_nil _
  rw [e] at this
  unfold dcT
  rw [this, if_pos rfl, if_pos rfl]
theorem csexpRoundTrip.under (hB : EncodeOk) (g : prodL L7) (hw : wfL L7 g) (hb : bkL L7 g ≤ 1048576) : FCalls Tryd.prog 7 (argsT S7 L7 g) [] (fun r _ => r = .bool true) fun _ _ => False := by
  obtain ⟨b, a, l, rest, ⟨⟩⟩ := g
  have hk0 : bkS ⟨b, a, l⟩ ≤ 1048576 := by
    have e : (l.map (bk .sexp)).sum = (l.map bkS).sum := rfl
    have hb' : 1 + (a.size + 1 + ((l.map (bk .sexp)).sum + 1 + (rest.size + 1 + 0))) ≤ 1048576 := hb
    simp only [bkS, bkSs_sum]
    omega
  have hk : bkS ⟨b, a, l⟩ ≤ lim := by rw [lim_eq]; omega
  have hz := encB_size hk
  refine F7_ok _ _ _ ?_
  unfold F7
  dsimp only
  refine ⟨hk, ?_⟩
  have hJ : ∀ t, (t = false → rest.size ≤ 100) → F7_J2 (fun r _ => r = .bool true) rest t b a l := fun t ht => by
    unfold F7_J2
    cases t with
    | true => exact ⟨trivial, rfl⟩
    | false =>
      have hr := ht rfl
      refine ⟨⟨hk, hB⟩, ?_⟩
      rw [bif_ndec]
      by_cases h0 : ckG ⟨b, a, l⟩ = 0
      · rw [en_ok h0, if_pos rfl]
        dsimp only
        rw [rdT_enc h0, dcT_enc h0]
        dsimp only
        refine ⟨by omega, ?_, ?_, ?_⟩
        · show (encB _ ++ rest).size ≤ 2147483648
          rw [size_app]; omega
        · show (encB _).size ≤ 2147483648
          omega
        · rw [decide_eq_true rfl, cond_true, decide_eq_true rfl, cond_true, cond_true]
          refine ⟨hk, ?_⟩
          rw [smR_refl, cond_true]
          exact ⟨hk, trivial, rfl⟩
      · rw [en_no h0, if_neg h0]
        dsimp only
        rw [decide_eq_true rfl, cond_true, decide_eq_true rfl, cond_true]
        exact ⟨hk, trivial, rfl⟩
  cases hg : grT ⟨b, a, l⟩ with
  | true => exact hJ true (fun h => by cases h)
  | false => exact hJ _ (fun h => by have := of_decide_eq_false h; omega)
theorem csexpCanonical.under (hB : EncodeOk) (g : prodL L8) (hw : wfL L8 g) (hb : bkL L8 g ≤ 1048576) : FCalls Tryd.prog 8 (argsT S8 L8 g) [] (fun r _ => r = .bool true) fun _ _ => False := by
  obtain ⟨s, ⟨⟩⟩ := g
  refine F8_ok _ _ _ ?_
  unfold F8
  dsimp only
  rw [bif_dec]
  split
  · exact ⟨trivial, rfl⟩
  rename_i hs
  have hp : topP s := (by omega : s.size ≤ 2147483648)
  refine ⟨hp, hp, ?_⟩
  rw [bif_ndec]
  cases hr : rdS 12 0 (bl s) with
  | err e =>
    have he : ¬ e = 0 := by rcases rd_err hr with rfl | rfl <;> decide
    have hd : dcT s = (sx0, e) := by unfold dcT; rw [rdT_no hr]; exact if_neg he
    rw [rdT_no hr, hd, if_neg he]
    dsimp only
    rw [decide_eq_true rfl, cond_true, decide_eq_true rfl, cond_true]
    exact ⟨trivial, rfl⟩
  | ok v =>
    obtain ⟨x, k, r⟩ := v
    obtain ⟨c1, c2⟩ := read_canon hr
    have hx : bkS x ≤ lim := by
      have := rdT_bk s
      rw [rdT_ok hr] at this
      rw [lim_eq]; dsimp only at this; omega
    have hlen := congrArg List.length c1
    rw [bl_len, List.length_append] at hlen
    obtain ⟨c, t, e1, _⟩ := enc_head x
    have hpos : 1 ≤ (encL x).length := by rw [e1]; simp
    have hex : encB x = s.extract (0 : Int).toNat ((s.size : Int) - (r.length : Int)).toNat := by
      apply bl_inj
      rw [bl_extract, encB_bl, c1, show ((s.size : Int) - (r.length : Int)).toNat = (encL x).length by omega, List.take_left]
      rfl
    rw [rdT_ok hr]
    dsimp only
    rw [if_pos rfl, Sx.eta, en_ok c2]
    refine ⟨⟨by show bkS ⟨_, _, _⟩ ≤ lim; rw [Sx.eta]; exact hx, hB⟩, ?_⟩
    dsimp only
    rw [decide_eq_true rfl]
    show bif decide ((s.size : Int) - (r.length : Int) < 1) then _ else _
    rw [decide_eq_false (by omega), cond_false, decide_eq_false (by omega), cond_false]
    refine ⟨Int.le_refl 0, by omega, by omega, ?_⟩
    rw [decide_eq_true hex]
    show _ ∧ _
    refine ⟨by show bkS ⟨_, _, _⟩ ≤ lim; rw [Sx.eta]; exact hx, ?_⟩
    rw [c2, decide_eq_true rfl]
    unfold F8_J2
    show bif decide ((s.size : Int) - (r.length : Int) < (s.size : Int)) then _ else _
    rw [bif_dec]
    by_cases hlt : (s.size : Int) - (r.length : Int) < (s.size : Int)
    · have hd : dcT s = (sx0, 12) := by unfold dcT; rw [rdT_ok hr, if_pos rfl, if_neg (by dsimp only; omega)]
      rw [if_pos hlt, hd, decide_eq_true rfl]
      exact ⟨trivial, rfl⟩
    · have hd : dcT s = (x, 0) := by unfold dcT; rw [rdT_ok hr, if_pos rfl, if_pos (by dsimp only; omega)]
      rw [if_neg hlt, hd, decide_eq_true rfl, cond_true]
      refine ⟨by show bkS ⟨_, _, _⟩ ≤ lim; rw [Sx.eta]; exact hx, ?_⟩
      rw [Sx.eta, smR_refl, cond_true]
      exact ⟨trivial, rfl⟩
end Go.Proofs.YtpbkhdeehlikfaaDoor

/-
  Csexp: the law Short, where Encode's contract is at hand.
-/
namespace Go.Proofs.YtpbkhdeehlikfaaDoor
set_option linter.unusedVariables false
set_option linter.unusedSimpArgs false
set_option linter.unusedSectionVars false
open Go.RowKit

theorem bl_pre (s : ByteArray) (m : Nat) : bl (s.extract (0 : Int).toNat m) = (bl s).take m := by
  rw [bl_extract]; rfl
theorem pre_top {s : ByteArray} (h : s.size ≤ 2147483648) (m : Nat) : topP (s.extract (0 : Int).toNat m) := by
  show (s.extract _ _).size ≤ _
  rw [← bl_len, bl_pre, List.length_take, bl_len]; omega
theorem pre_short {s : ByteArray} {m : Nat} (h : rdS 12 0 ((bl s).take m) = .err 11) : (rdT (s.extract (0 : Int).toNat m)).2.2 = 11 := by
  rw [rdT_no (by rw [bl_pre]; exact h)]
theorem tmod_lt {k n : Int} (h1 : 0 ≤ k) (h2 : 0 < n) : 0 ≤ Int.tmod k n ∧ Int.tmod k n < n :=
  ⟨Int.tmod_nonneg _ h1, Int.tmod_lt_of_pos _ h2⟩
theorem short_tail {s : ByteArray} {k : Int} (hs : s.size ≤ 300) (h1 : 0 ≤ k) (h2 : k ≤ 65535) : F9_J6 (fun r _ => r = .bool true) s k := by
  have hp : s.size ≤ 2147483648 := by omega
  unfold F9_J6
  refine ⟨hp, ?_⟩
  rw [bif_dec]
  split
  · rename_i h11
    have hr : rdS 12 0 (bl s) = .err 11 := by
      cases hr : rdS 12 0 (bl s) with
      | ok a =>
        obtain ⟨x, k', r⟩ := a
        rw [rdT_ok hr] at h11
        exact absurd (show (0 : Int) = 11 from h11) (by decide)
      | err e =>
        rw [rdT_no hr] at h11
        dsimp only at h11
        rw [h11]
    rw [wrap64 (n := k) (by omega) (by omega), wrap64 (n := (s.size : Int) + 1) (by omega) (by omega)]
    obtain ⟨t1, t2⟩ := tmod_lt h1 (show (0 : Int) < (s.size : Int) + 1 by omega)
    refine ⟨by omega, Int.le_refl 0, t1, by omega, pre_top hp _, ?_⟩
    rw [bif_ndec, if_pos (pre_short (short_prefix (s := (bl s).drop _) (by rw [List.take_append_drop]; exact hr)))]
    exact ⟨trivial, rfl⟩
  · exact ⟨trivial, rfl⟩
theorem csexpShort.under (hB : EncodeOk) (g : prodL L9) (hw : wfL L9 g) (hb : bkL L9 g ≤ 1048576) : FCalls Tryd.prog 9 (argsT S9 L9 g) [] (fun r _ => r = .bool true) fun _ _ => False := by
  obtain ⟨b, a, l, s, k, ⟨⟩⟩ := g
  have hk0 : bkS ⟨b, a, l⟩ ≤ 1048576 := by
    have e : (l.map (bk .sexp)).sum = (l.map bkS).sum := rfl
    have hb' : 1 + (a.size + 1 + ((l.map (bk .sexp)).sum + 1 + (s.size + 1 + (1 + 0)))) ≤ 1048576 := hb
    simp only [bkS, bkSs_sum]
    omega
  have hk : bkS ⟨b, a, l⟩ ≤ lim := by rw [lim_eq]; omega
  have hz := encB_size hk
  have hat : 0 ≤ k ∧ k ≤ 65535 := hw.2.1
  have main : ∀ (k : Int), 0 ≤ k → k ≤ 65535 → ∀ t, (t = false → s.size ≤ 300) → F9_J2 (fun r _ => r = .bool true) s k t b a l := fun k h1 h2 t ht => by
    unfold F9_J2
    cases t with
    | true => exact ⟨trivial, rfl⟩
    | false =>
      have hs := ht rfl
      refine ⟨⟨hk, hB⟩, ?_⟩
      rw [bif_dec]
      by_cases h0 : ckG ⟨b, a, l⟩ = 0
      · rw [en_ok h0, if_pos rfl]
        dsimp only
        obtain ⟨c, t, e1, _⟩ := enc_head ⟨b, a, l⟩
        have hlen : (encB ⟨b, a, l⟩).size = (encL ⟨b, a, l⟩).length := by rw [← bl_len, encB_bl]
        have hpos : 1 ≤ (encL ⟨b, a, l⟩).length := by rw [e1]; simp
        rw [decide_eq_false (by omega), cond_false, wrap64 (n := k) (by omega) (by omega)]
        obtain ⟨t1, t2⟩ := tmod_lt h1 (show (0 : Int) < ((encB ⟨b, a, l⟩).size : Int) by omega)
        refine ⟨by omega, Int.le_refl 0, t1, by omega, pre_top (by omega) _, ?_⟩
        generalize Int.tmod k ((encB ⟨b, a, l⟩).size : Int) = m at t1 t2
        rw [bif_ndec, if_pos (pre_short (by rw [encB_bl]; exact enc_prefix h0 (List.take_append_drop m.toNat _).symm (by
          intro e
          have := congrArg List.length e
          rw [List.length_drop] at this
          simp only [List.length_nil] at this
          omega)))]
        exact short_tail hs h1 h2
      · rw [en_no h0, if_neg h0]
        exact short_tail hs h1 h2
  refine F9_ok _ _ _ ?_
  unfold F9
  dsimp only
  refine ⟨hk, ?_⟩
  cases hg : grT ⟨b, a, l⟩ with
  | true => exact main k hat.1 hat.2 true (fun h => by cases h)
  | false => exact main k hat.1 hat.2 _ (fun h => by have := of_decide_eq_false h; omega)
end Go.Proofs.YtpbkhdeehlikfaaDoor

/-
  Csexp: the law Stream, where Encode's contract is at hand.
-/
namespace Go.Proofs.YtpbkhdeehlikfaaDoor
set_option linter.unusedVariables false
set_option linter.unusedSimpArgs false
set_option linter.unusedSectionVars false
open Go.RowKit

theorem encLs_app : ∀ (l m : List Sx), encLs (l ++ m) = encLs l ++ encLs m
  | [], m => rfl
  | x :: l, m => by simp [encLs, encLs_app l m]
theorem stream_read {sent : List Sx} {s : ByteArray} (hv : ∀ x ∈ sent, ckG x = 0 ∧ bkS x ≤ 1048576) (hl : sent.length ≤ 4294967296) (hs : bl s = encLs sent) (hz : s.size ≤ 2147483648) : F10_L12 (fun r _ => r = .bool true) (s, (sent.length : Int), 0, sent, ()) := by
  unfold F10_L12
  refine LoopW.fold sent (fun n (a : ByteArray) => (a, (sent.length : Int), (n : Int), sent, ())) (fun r _ a => bl a = encLs r ∧ a.size ≤ 2147483648) (a0 := s) rfl ⟨hs, hz⟩ (fun a hp W => ?_) (fun n hn r a hr hp W hW => ?_)
  · unfold F10_B12
    rw [bif_dec, if_neg (by dsimp only; omega), bif_dec]
    have : a = (⟨#[]⟩ : ByteArray) := bl_inj (hp.1.trans rfl)
    rw [if_pos this]
    exact ⟨trivial, rfl⟩
  · obtain ⟨p1, p2⟩ := hp
    have hx := hv _ (List.getElem_mem hn)
    have hg : sent[n]? = some sent[n] := List.getElem?_eq_getElem hn
    have hwr := wrapS hn hl
    generalize sent[n] = x at *
    simp only [encLs] at p1
    have hrd := read_enc hx.1 (encLs r)
    have hrd' : rdS 12 0 (bl a) = .ok (x, nn x, encLs r) := by rw [p1]; exact hrd
    have hlen := congrArg List.length p1
    rw [bl_len, List.length_append] at hlen
    obtain ⟨c, t, e1, _⟩ := enc_head x
    have hpos : 1 ≤ (encL x).length := by rw [e1]; simp
    have hbk : bkS x ≤ lim := by rw [lim_eq]; omega
    unfold F10_B12
    rw [bif_dec, if_pos (by dsimp only; omega)]
    refine ⟨by dsimp only; omega, by dsimp only; omega, x, by dsimp only; rw [Int.toNat_natCast]; exact hg, p2, ?_⟩
    dsimp only
    rw [rdT_ok hrd']
    dsimp only
    rw [decide_eq_true rfl]
    show bif decide ((a.size : Int) - ((encLs r).length : Int) < 1) then _ else _
    rw [decide_eq_false (by omega), cond_false, decide_eq_false (by omega), cond_false]
    refine ⟨by show bkS ⟨_, _, _⟩ ≤ lim; rw [Sx.eta]; exact hbk, ?_⟩
    rw [Sx.eta, smR_refl]
    unfold F10_J15
    show _ ∧ _
    refine ⟨by omega, by omega, Int.le_refl _, ?_⟩
    rw [hwr]
    have e2 : bl (a.extract ((a.size : Int) - ((encLs r).length : Int)).toNat (a.size : Int).toNat) = encLs r := by
      rw [bl_extract, Int.toNat_natCast, ← bl_len, List.take_length, p1, show ((((encL x ++ encLs r).length : Nat) : Int) - ((encLs r).length : Int)).toNat = (encL x).length by rw [List.length_append]; omega, List.drop_left]
    refine hW _ ⟨e2, ?_⟩
    have := congrArg List.length e2
    rw [bl_len] at this
    omega
theorem csexpStream.under (hB : EncodeOk) (g : prodL L10) (hw : wfL L10 g) (hb : bkL L10 g ≤ 1048576) : FCalls Tryd.prog 10 (argsT S10 L10 g) [] (fun r _ => r = .bool true) fun _ _ => False := by
  obtain ⟨l, ⟨⟩⟩ := g
  have hk0 : bkSs l ≤ 1048576 := by
    have hb' : (l.map (bk .sexp)).sum + 1 + 0 ≤ 1048576 := hb
    have e : (l.map (bk .sexp)).sum = (l.map bkS).sum := rfl
    rw [bkSs_sum]; omega
  refine F10_ok _ _ _ ?_
  unfold F10
  dsimp only
  rw [bif_dec]
  split
  · exact ⟨trivial, rfl⟩
  rename_i h8
  have h8 : l.length ≤ 8 := by omega
  unfold F10_L7
  refine LoopW.fold l (fun n (a : ByteArray × List Sx) => (a.1, l, (l.length : Int), (n : Int), a.2, ())) (fun r n a => bl a.1 = encLs a.2 ∧ (∀ x ∈ a.2, ckG x = 0 ∧ bkS x ≤ 1048576) ∧ bkSs a.2 + bkSs r ≤ 1048576 ∧ a.2.length ≤ n) (a0 := (⟨#[]⟩, [])) rfl ⟨rfl, by simp, by simpa [bkSs] using hk0, Nat.le_refl _⟩ (fun a hp W => ?_) (fun n hn r a hr hp W hW => ?_)
  · obtain ⟨p1, p2, p3, p4⟩ := hp
    unfold F10_B7
    rw [bif_dec, if_neg (by dsimp only; omega)]
    refine stream_read p2 (Nat.le_trans p4 (by omega)) p1 ?_
    have h1 := encLs_len a.2 (by rw [lim_eq]; omega)
    rw [← bl_len, p1]; omega
  · obtain ⟨p1, p2, p3, p4⟩ := hp
    have hwr := wrapS hn (show l.length ≤ 4294967296 by omega)
    unfold F10_B7
    rw [bif_dec, if_pos (by dsimp only; omega)]
    refine At_of hn ?_
    generalize l[n] = x at *
    simp only [bkSs] at p3
    have hbk : bkS x ≤ lim := by rw [lim_eq]; omega
    rw [Sx.eta]
    refine ⟨by show bkS ⟨_, _, _⟩ ≤ lim; rw [Sx.eta]; exact hbk, ?_⟩
    cases hg : grT x with
    | true => exact ⟨trivial, rfl⟩
    | false =>
      refine ⟨⟨by show bkS ⟨_, _, _⟩ ≤ lim; rw [Sx.eta]; exact hbk, hB⟩, ?_⟩
      rw [bif_dec]
      unfold F10_J10
      rw [hwr]
      by_cases h0 : ckG x = 0
      · rw [en_ok h0, if_pos rfl]
        dsimp only
        have hz := encB_size hbk
        have h1 := encLs_len a.2 (by rw [lim_eq]; omega)
        have h2 : a.1.size = (encLs a.2).length := by rw [← bl_len, p1]
        refine ⟨by omega, by simp only [List.length_cons, List.length_nil]; omega, ?_⟩
        refine hW (a.1 ++ encB x, a.2 ++ [x]) ⟨?_, ?_, ?_, ?_⟩
        · rw [bl_app, p1, encB_bl, encLs_app]
          simp [encLs]
        · intro y hy
          rcases List.mem_append.1 hy with hy | hy
          · exact p2 y hy
          · simp only [List.mem_cons, List.not_mem_nil, or_false] at hy
            subst hy
            exact ⟨h0, by omega⟩
        · rw [bkSs_append]; simp only [bkSs]; omega
        · simp only [List.length_append, List.length_cons, List.length_nil]; omega
      · rw [en_no h0, if_neg h0]
        exact hW a ⟨p1, p2, by omega, by omega⟩
end Go.Proofs.YtpbkhdeehlikfaaDoor
