import Derived.Test.YtoclmkbjgmgekaaDoorX4
/-
  Csexp: what is written is read back.
-/
namespace Go.Proofs.YtoclmkbjgmgekaaDoor
set_option linter.unusedVariables false
set_option linter.unusedSimpArgs false
set_option linter.unusedSectionVars false
open Go.RowKit

mutual
/-- The encoding, as a list. -/
def encL : Sx → List UInt8
  | ⟨b, a, l⟩ => if b = false then Lib.decDigits a.size ++ 58 :: bl a else 40 :: (encLs l ++ [41])
def encLs : List Sx → List UInt8
  | [] => []
  | x :: l => encL x ++ encLs l
end
mutual
theorem encB_bl : ∀ x : Sx, bl (encB x) = encL x
  | ⟨b, a, l⟩ => by
    simp only [encB, encL]
    split
    · rw [bl_app, bl_app, bl_dec, Lib.itoa, if_neg (by omega), List.append_assoc]; rfl
    · rw [bl_app, encBs_bl l]; rfl
theorem encBs_bl : ∀ (l : List Sx) (s : ByteArray), bl (encBs l s) = bl s ++ encLs l
  | [], s => by simp [encBs, encLs]
  | x :: l, s => by
    simp only [encBs, encLs]
    rw [encBs_bl l, bl_app, encB_bl x, List.append_assoc]
end
theorem num_go : ∀ (d : List UInt8) (n : Nat) (r : List UInt8), digs d = true → dv n d ≤ 65536 → 1 ≤ n → numR false n (d ++ 58 :: r) = .ok (dv n d, r)
  | [], n, r, _, _, _ => by
    rw [dv_nil, List.nil_append, numR, if_pos ⟨rfl, rfl⟩]
  | c :: d, n, r, h1, h2, h3 => by
    obtain ⟨c1, c2⟩ := (digsC c d).1 h1
    rw [dv_cons] at h2 ⊢
    have := dv_le d (10 * n + (c.toNat - 48))
    rw [List.cons_append, numR, if_neg (by omega), if_neg (by simp; omega), if_neg (by omega)]
    exact num_go d _ r c2 h2 (by omega)
theorem num_dec {u : Nat} (h : u ≤ 65536) (r : List UInt8) : numR true 0 (Lib.decDigits u ++ 58 :: r) = .ok (u, r) := by
  have h1 := dec_digs u
  have h2 := dec_dv u
  have h3 := dec_head u
  cases hd : Lib.decDigits u with
  | nil => exact absurd hd (dec_ne u)
  | cons c d =>
    rw [hd] at h1 h2 h3
    obtain ⟨c1, c2⟩ := (digsC c d).1 h1
    rw [dv_cons] at h2
    have hle := dv_le d (10 * 0 + (c.toNat - 48))
    rw [List.cons_append, numR, if_neg (by simp), if_neg (by simp; omega), if_neg (by omega)]
    by_cases h48 : c.toNat = 48
    · have hu : u = 0 := h3 (by simp [head48, h48])
      subst hu
      rw [Lib.decDigits_one (by omega)] at hd
      simp only [List.cons.injEq] at hd
      obtain ⟨-, rfl⟩ := hd
      rw [h48, List.nil_append, numR, if_pos ⟨rfl, rfl⟩]
    · rw [num_go d _ r c2 (by omega) (by omega), h2]
theorem atom_enc {a : List UInt8} (h : a.length ≤ 65536) (r : List UInt8) : atomR (Lib.decDigits a.length ++ 58 :: (a ++ r)) = .ok (a, r) := by
  unfold atomR atomG
  rw [num_dec h]
  simp only
  rw [if_neg (by simp), List.take_left, List.drop_left]
/-- The first byte of an encoding. -/
theorem enc_head (x : Sx) : ∃ c l, encL x = c :: l ∧ c.toNat ≠ 41 := by
  obtain ⟨b, a, l⟩ := x
  simp only [encL]
  split
  · have h1 := dec_digs a.size
    cases hd : Lib.decDigits a.size with
    | nil => exact absurd hd (dec_ne _)
    | cons c d =>
      rw [hd] at h1
      have := ((digsC c d).1 h1).1
      exact ⟨c, _, rfl, by omega⟩
  · exact ⟨40, _, rfl, by decide⟩
theorem rdL_enc {f : Nat → List UInt8 → Res (Sx × Nat × List UInt8) Int} {r : List UInt8} : ∀ (xs : List Sx) (m k : Nat) (acc : List Sx), (encLs xs).length < m →
    (∀ x ∈ xs, ∀ k' s, k ≤ k' → k' + nn x ≤ k + nns xs → f k' (encL x ++ s) = .ok (x, k' + nn x, s)) → rdL f m k (encLs xs ++ 41 :: r) acc = .ok (acc ++ xs, k + nns xs, r)
  | [], m, k, acc, hm, _ => by
    obtain ⟨m, rfl⟩ : ∃ m', m = m' + 1 := ⟨m - 1, by omega⟩
    simp [encLs, rdL, nns]
  | x :: xs, m, k, acc, hm, h => by
    simp only [encLs, List.length_append] at hm
    obtain ⟨m, rfl⟩ : ∃ m', m = m' + 1 := ⟨m - 1, by omega⟩
    obtain ⟨c, t, e, h41⟩ := enc_head x
    have hx := h x (by simp) k (encLs xs ++ 41 :: r) (Nat.le_refl _) (by simp only [nns]; omega)
    simp only [encLs, nns, List.append_assoc]
    rw [e] at hx ⊢
    rw [List.cons_append] at hx ⊢
    simp only [rdL, if_neg h41, hx]
    have hlen : 1 ≤ (encL x).length := by rw [e]; simp
    rw [rdL_enc xs m (k + nn x) (acc ++ [x]) (by omega) fun y hy k' s h1 h2 => h y (List.mem_cons_of_mem _ hy) k' s (by omega) (by simp only [nns]; omega)]
    simp [Nat.add_assoc]
theorem ck_mem : ∀ {l : List Sx}, ckRs l = 0 → ∀ x ∈ l, ckR x = 0
  | [], _, x, hx => by simp at hx
  | y :: l, h, x, hx => by
    simp only [ckRs] at h
    split at h
    · rename_i h0
      rcases List.mem_cons.1 hx with rfl | hx
      · exact h0
      · exact ck_mem h x hx
    · rename_i h0; exact absurd h h0
theorem dd_mem : ∀ {l : List Sx}, ∀ x ∈ l, dd x ≤ dds l
  | [], x, hx => by simp at hx
  | y :: l, x, hx => by
    simp only [dds]
    rcases List.mem_cons.1 hx with rfl | hx
    · omega
    · have := dd_mem x hx; omega
theorem rdS_enc : ∀ (d : Nat) (x : Sx) (k : Nat) (r : List UInt8), ckR x = 0 → dd x ≤ d → k + nn x ≤ 20000 → rdS d k (encL x ++ r) = .ok (x, k + nn x, r)
  | 0, x, _, _, _, h, _ => by have := dd_pos x; omega
  | d + 1, ⟨b, a, l⟩, k, r, h1, h2, h3 => by
    simp only [ckR, dd, nn] at h1 h2 h3
    simp only [encL, nn]
    cases b with
    | false =>
      simp only [if_true] at h1 h2 h3 ⊢
      have hl : l = [] := by
        by_cases hl : 0 < l.length
        · rw [if_pos hl] at h1; cases h1
        · exact List.eq_nil_of_length_eq_zero (by omega)
      subst hl
      have ha : (bl a).length ≤ 65536 := by
        rw [bl_len]
        by_cases ha : 65536 < a.size
        · rw [if_neg (by simp), if_pos ha] at h1; cases h1
        · omega
      have hat := atom_enc ha r
      have hd := dec_digs a.size
      rw [bl_len] at hat
      rw [List.append_assoc, List.cons_append]
      cases hc : Lib.decDigits a.size with
      | nil => exact absurd hc (dec_ne _)
      | cons c t =>
        rw [hc] at hat hd
        have := ((digsC c t).1 hd).1
        rw [List.cons_append] at hat ⊢
        rw [rdS, if_neg (by omega), if_pos (by omega), hat]
        simp [mk_bl]
    | true =>
      simp only [Bool.true_eq_false, if_false] at h1 h2 h3 ⊢
      have ha : a = ⟨#[]⟩ := Classical.not_not.1 fun ha => by rw [if_pos ha] at h1; cases h1
      subst ha
      rw [if_neg (by simp)] at h1
      have he : (40 : UInt8) :: (encLs l ++ [41]) ++ r = 40 :: (encLs l ++ 41 :: r) := by simp
      rw [he, rdS, if_neg (by omega), if_neg (by decide), rdL_enc l _ (k + 1) [] (by simp; omega) fun x hx k' s q1 q2 => rdS_enc d x k' s (ck_mem h1 x hx) (by have := dd_mem x hx; omega) (by omega)]
      simp [Nat.add_assoc]
theorem ck_valid {x : Sx} (h : ckG x = 0) : ckR x = 0 ∧ nn x ≤ 20000 ∧ dd x ≤ 12 := by
  unfold ckG at h
  obtain ⟨_, k2⟩ := madd_is x 0 1
  split at h
  · cases h
  · rename_i hm
    have := k2 (by simpa using hm)
    rw [shape_eq] at h
    exact ⟨h, by omega, by omega⟩
/-- What is written is read back. -/
theorem read_enc {x : Sx} (h : ckG x = 0) (r : List UInt8) : rdS 12 0 (encL x ++ r) = .ok (x, nn x, r) := by
  obtain ⟨h1, h2, h3⟩ := ck_valid h
  rw [rdS_enc 12 x 0 r h1 h3 (by omega), Nat.zero_add]
end Go.Proofs.YtoclmkbjgmgekaaDoor

/-
  Csexp: what is read is an encoding; what more bytes change.
-/
namespace Go.Proofs.YtoclmkbjgmgekaaDoor
set_option linter.unusedVariables false
set_option linter.unusedSimpArgs false
set_option linter.unusedSectionVars false
open Go.RowKit

abbrev Rdr := Nat → List UInt8 → Res (Sx × Nat × List UInt8) Int
theorem rdL_fuel {f : Rdr} (hf : ∀ k l x k' r, f k l = .ok (x, k', r) → r.length < l.length) : ∀ (m m' k : Nat) (l : List UInt8) (acc : List Sx), l.length < m → l.length < m' → rdL f m k l acc = rdL f m' k l acc
  | 0, _, _, _, _, h, _ => absurd h (Nat.not_lt_zero _)
  | _ + 1, 0, _, _, _, _, h => absurd h (Nat.not_lt_zero _)
  | m + 1, m' + 1, k, [], acc, _, _ => rfl
  | m + 1, m' + 1, k, c :: l, acc, h, h' => by
    simp only [rdL]
    split
    · rfl
    · cases hx : f k (c :: l) with
      | err e => rfl
      | ok a =>
        obtain ⟨x, k', r⟩ := a
        have := hf _ _ _ _ _ hx
        exact rdL_fuel hf m m' k' r _ (by omega) (by omega)
theorem numR_ext : ∀ (l : List UInt8) (first : Bool) (n : Nat) (s : List UInt8), (∀ m r, numR first n l = .ok (m, r) → numR first n (l ++ s) = .ok (m, r ++ s)) ∧ (numR first n l = .err 12 → numR first n (l ++ s) = .err 12)
  | [], first, n, s => by simp [numR]
  | c :: l, first, n, s => by
    rw [List.cons_append]
    simp only [numR]
    split
    · simp
    · split
      · simp
      · split
        · simp
        · exact numR_ext l false _ s
theorem atomR_ext (l s : List UInt8) : (∀ a r, atomR l = .ok (a, r) → atomR (l ++ s) = .ok (a, r ++ s)) ∧ (atomR l = .err 12 → atomR (l ++ s) = .err 12) := by
  obtain ⟨k1, k2⟩ := numR_ext l true 0 s
  unfold atomR atomG
  cases hn : numR true 0 l with
  | err e =>
    refine ⟨fun a r h => by simp at h, fun h => ?_⟩
    simp only [Res.err.injEq] at h
    subst h
    rw [k2 hn]
  | ok v =>
    obtain ⟨n, r⟩ := v
    rw [k1 _ _ hn]
    simp only
    by_cases hr : r.length < n
    · rw [if_pos hr]
      exact ⟨fun a r h => by simp at h, fun h => by simp at h⟩
    · rw [if_neg hr, if_neg (by simp; omega)]
      refine ⟨fun a r' h => ?_, fun h => by simp at h⟩
      simp only [Res.ok.injEq, Prod.mk.injEq] at h
      obtain ⟨rfl, rfl⟩ := h
      rw [List.take_append_of_le_length (by omega), List.drop_append_of_le_length (by omega)]
def Ext (f : Rdr) : Prop := ∀ (k : Nat) (l s : List UInt8), (∀ x k' r, f k l = .ok (x, k', r) → f k (l ++ s) = .ok (x, k', r ++ s)) ∧ (f k l = .err 12 → f k (l ++ s) = .err 12)
theorem rdL_ext {f : Rdr} (hf : Ext f) : ∀ (m k : Nat) (l s : List UInt8) (acc : List Sx), (∀ xs k' r, rdL f m k l acc = .ok (xs, k', r) → rdL f m k (l ++ s) acc = .ok (xs, k', r ++ s)) ∧ (rdL f m k l acc = .err 12 → rdL f m k (l ++ s) acc = .err 12)
  | 0, k, l, s, acc => by simp [rdL]
  | m + 1, k, [], s, acc => by simp [rdL]
  | m + 1, k, c :: l, s, acc => by
    rw [List.cons_append]
    simp only [rdL]
    split
    · simp
    · obtain ⟨k1, k2⟩ := hf k (c :: l) s
      rw [List.cons_append] at k1 k2
      cases hx : f k (c :: l) with
      | err e =>
        refine ⟨fun xs k' r h => by simp at h, fun h => ?_⟩
        simp only [Res.err.injEq] at h
        subst h
        rw [k2 hx]
      | ok a =>
        obtain ⟨x, k', r⟩ := a
        rw [k1 _ _ _ hx]
        exact rdL_ext hf m k' r s _
theorem rdS_lt (d : Nat) : ∀ (k : Nat) (l : List UInt8) (x : Sx) (k' : Nat) (r : List UInt8), rdS d k l = .ok (x, k', r) → r.length < l.length := fun k l x k' r h => by
  by_cases hk : k ≤ 20000
  · obtain ⟨⟨p, p1, p2, _⟩, _⟩ := (rdS_sound d k l hk).1 x k' r h
    have := List.length_pos_iff.2 p1
    rw [p2, List.length_append]; omega
  · cases l with
    | nil => simp [rdS] at h
    | cons c l => cases d with
      | zero => simp [rdS] at h
      | succ d => rw [rdS, if_pos (by omega)] at h; cases h
theorem rdS_ext : ∀ d : Nat, Ext (rdS d)
  | 0 => fun k l s => by
    cases l with
    | nil => simp [rdS]
    | cons c l => simp [rdS]
  | d + 1 => fun k l s => by
    cases l with
    | nil => simp [rdS]
    | cons c l =>
      rw [List.cons_append]
      simp only [rdS]
      split
      · simp
      · split
        · obtain ⟨k1, k2⟩ := atomR_ext (c :: l) s
          rw [List.cons_append] at k1 k2
          cases ha : atomR (c :: l) with
          | err e =>
            refine ⟨fun x k' r h => by simp at h, fun h => ?_⟩
            simp only [Res.err.injEq] at h
            subst h
            rw [k2 ha]
          | ok v =>
            obtain ⟨a, r⟩ := v
            rw [k1 _ _ ha]
            simp
        · obtain ⟨k1, k2⟩ := rdL_ext (rdS_ext d) ((l ++ s).length + 1) (k + 1) l s []
          rw [rdL_fuel (rdS_lt d) (l.length + 1) ((l ++ s).length + 1) (k + 1) l [] (by omega) (by simp; omega)]
          cases ha : rdL (rdS d) ((l ++ s).length + 1) (k + 1) l [] with
          | err e =>
            refine ⟨fun x k' r h => by simp at h, fun h => ?_⟩
            simp only [Res.err.injEq] at h
            subst h
            rw [k2 ha]
          | ok v =>
            obtain ⟨xs, k', r⟩ := v
            rw [k1 _ _ _ ha]
            simp
theorem rd_err {l : List UInt8} {e : Int} (h : rdS 12 0 l = .err e) : e = 11 ∨ e = 12 := (rdS_sound 12 0 l (by omega)).2 e h
/-- No prefix of what is short is anything else. -/
theorem short_prefix {l s : List UInt8} (h : rdS 12 0 (l ++ s) = .err 11) : rdS 12 0 l = .err 11 := by
  obtain ⟨k1, k2⟩ := rdS_ext 12 0 l s
  cases hx : rdS 12 0 l with
  | ok a =>
    obtain ⟨x, k', r⟩ := a
    rw [k1 _ _ _ hx] at h; cases h
  | err e =>
    rcases rd_err hx with rfl | rfl
    · rfl
    · rw [k2 hx] at h; cases h
/-- Every proper prefix of an encoding is short. -/
theorem enc_prefix {x : Sx} (h : ckG x = 0) {l s : List UInt8} (he : encL x = l ++ s) (hs : s ≠ []) : rdS 12 0 l = .err 11 := by
  have hr := read_enc h []
  rw [List.append_nil, he] at hr
  obtain ⟨k1, k2⟩ := rdS_ext 12 0 l s
  cases hx : rdS 12 0 l with
  | ok a =>
    obtain ⟨y, k', r⟩ := a
    rw [k1 _ _ _ hx] at hr
    simp only [Res.ok.injEq, Prod.mk.injEq, List.append_eq_nil_iff] at hr
    exact absurd hr.2.2.2 hs
  | err e =>
    rcases rd_err hx with rfl | rfl
    · rfl
    · rw [k2 hx] at hr; cases hr
end Go.Proofs.YtoclmkbjgmgekaaDoor

/-
  Csexp: what is read is an encoding.
-/
namespace Go.Proofs.YtoclmkbjgmgekaaDoor
set_option linter.unusedVariables false
set_option linter.unusedSimpArgs false
set_option linter.unusedSectionVars false
open Go.RowKit

theorem numR_inv : ∀ (l : List UInt8) (first : Bool) (n m : Nat) (r : List UInt8), numR first n l = .ok (m, r) → ∃ d, digs d = true ∧ l = d ++ 58 :: r ∧ m = dv n d ∧ (first = true → d ≠ []) ∧ (first = false → n = 0 → d = [])
  | [], _, _, _, _, h => by simp [numR] at h
  | c :: l, first, n, m, r, h => by
    simp only [numR] at h
    split at h
    · rename_i h0
      simp only [Res.ok.injEq, Prod.mk.injEq] at h
      obtain ⟨rfl, rfl⟩ := h
      have : c = 58 := UInt8.toNat_inj.1 h0.1
      subst this
      exact ⟨[], rfl, rfl, (dv_nil _).symm, fun e => (by rw [h0.2] at e; cases e), fun _ _ => rfl⟩
    · split at h
      · cases h
      · rename_i h1
        split at h
        · cases h
        · obtain ⟨d, d1, d2, d3, _, d5⟩ := numR_inv l false _ m r h
          refine ⟨c :: d, (digsC c d).2 ⟨by omega, d1⟩, by rw [d2]; rfl, by rw [dv_cons]; exact d3, fun _ => by simp, fun e1 e2 => absurd (Or.inr (Or.inr ⟨e1, e2⟩)) h1⟩
theorem num_inv {l : List UInt8} {m : Nat} {r : List UInt8} (h : numR true 0 l = .ok (m, r)) : l = Lib.decDigits m ++ 58 :: r ∧ m ≤ 65536 := by
  have hm := (numR_ok _ _ _ _ _ h).2 (by omega)
  cases l with
  | nil => simp [numR] at h
  | cons c l =>
    simp only [numR] at h
    rw [if_neg (by simp)] at h
    split at h
    · cases h
    · rename_i h1
      split at h
      · cases h
      · obtain ⟨d, d1, d2, d3, _, d5⟩ := numR_inv l false _ m r h
        have hc : digs (c :: d) = true := (digsC c d).2 ⟨by omega, d1⟩
        have e : dv 0 (c :: d) = m := by rw [dv_cons]; exact d3.symm
        have hu := dec_uniq _ (c :: d) rfl hc (by simp) (by
          by_cases h48 : c.toNat = 48
          · right
            rw [d5 rfl (by omega), show c = 48 from UInt8.toNat_inj.1 h48]
          · left
            simp [head48, h48])
        rw [e] at hu
        rw [hu, d2]
        exact ⟨rfl, hm⟩
theorem atom_inv {l a r : List UInt8} (h : atomR l = .ok (a, r)) : l = Lib.decDigits a.length ++ 58 :: (a ++ r) ∧ a.length ≤ 65536 := by
  unfold atomR atomG at h
  cases hn : numR true 0 l with
  | err e => rw [hn] at h; cases h
  | ok v =>
    obtain ⟨n, q⟩ := v
    rw [hn] at h
    simp only at h
    by_cases hq : q.length < n
    · rw [if_pos hq] at h; cases h
    · rw [if_neg hq] at h
      simp only [Res.ok.injEq, Prod.mk.injEq] at h
      obtain ⟨rfl, rfl⟩ := h
      obtain ⟨k1, k2⟩ := num_inv hn
      have e : (q.take n).length = n := by rw [List.length_take]; omega
      rw [e, List.take_append_drop]
      exact ⟨k1, k2⟩
def Canon (d : Nat) (f : Rdr) : Prop := ∀ k l x k' r, f k l = .ok (x, k', r) → l = encL x ++ r ∧ ckR x = 0 ∧ dd x ≤ d ∧ k' = k + nn x
theorem rdL_canon {d : Nat} {f : Rdr} (hf : Canon d f) : ∀ (m k : Nat) (l : List UInt8) (acc xs : List Sx) (k' : Nat) (r : List UInt8), rdL f m k l acc = .ok (xs, k', r) →
    ∃ ys, xs = acc ++ ys ∧ l = encLs ys ++ 41 :: r ∧ ckRs ys = 0 ∧ dds ys ≤ d ∧ k' = k + nns ys
  | 0, _, _, _, _, _, _, h => by simp [rdL] at h
  | m + 1, k, [], acc, xs, k', r, h => by simp [rdL] at h
  | m + 1, k, c :: l, acc, xs, k', r, h => by
    simp only [rdL] at h
    split at h
    · rename_i h41
      simp only [Res.ok.injEq, Prod.mk.injEq] at h
      obtain ⟨rfl, rfl, rfl⟩ := h
      have : c = 41 := UInt8.toNat_inj.1 h41
      subst this
      exact ⟨[], by simp, rfl, rfl, Nat.zero_le _, rfl⟩
    · cases hx : f k (c :: l) with
      | err e => rw [hx] at h; cases h
      | ok a =>
        obtain ⟨x, k1, r1⟩ := a
        rw [hx] at h
        obtain ⟨e1, e2, e3, e4⟩ := hf _ _ _ _ _ hx
        obtain ⟨ys, y1, y2, y3, y4, y5⟩ := rdL_canon hf m k1 r1 _ xs k' r h
        refine ⟨x :: ys, by rw [y1]; simp, by rw [e1, y2]; simp [encLs], ?_, ?_, ?_⟩
        · simp only [ckRs]; rw [if_pos e2]; exact y3
        · simp only [dds]; omega
        · simp only [nns]; omega
theorem rdS_canon : ∀ d : Nat, Canon d (rdS d)
  | 0 => fun k l x k' r h => by
    cases l with
    | nil => simp [rdS] at h
    | cons c l => simp [rdS] at h
  | d + 1 => fun k l x k' r h => by
    cases l with
    | nil => simp [rdS] at h
    | cons c l =>
      simp only [rdS] at h
      split at h
      · cases h
      · split at h
        · cases ha : atomR (c :: l) with
          | err e => rw [ha] at h; cases h
          | ok v =>
            obtain ⟨a, q⟩ := v
            rw [ha] at h
            simp only [Res.ok.injEq, Prod.mk.injEq] at h
            obtain ⟨rfl, rfl, rfl⟩ := h
            obtain ⟨k1, k2⟩ := atom_inv ha
            have hsz : (⟨a.toArray⟩ : ByteArray).size = a.length := by rw [← bl_len, bl_mk]
            refine ⟨?_, ?_, ?_, ?_⟩
            · rw [k1]
              simp only [encL, if_true, hsz, bl_mk, List.append_assoc, List.cons_append]
            · simp only [ckR, if_true, List.length_nil]
              rw [if_neg (by omega), if_neg (by omega)]
            · simp [dd]
            · simp [nn]
        · rename_i h40
          cases ha : rdL (rdS d) (l.length + 1) (k + 1) l [] with
          | err e => rw [ha] at h; cases h
          | ok v =>
            obtain ⟨xs, k1, q⟩ := v
            rw [ha] at h
            simp only [Res.ok.injEq, Prod.mk.injEq] at h
            obtain ⟨rfl, rfl, rfl⟩ := h
            obtain ⟨ys, y1, y2, y3, y4, y5⟩ := rdL_canon (rdS_canon d) _ _ _ _ _ _ _ ha
            rw [List.nil_append] at y1
            subst y1
            have : c = 40 := UInt8.toNat_inj.1 (Classical.not_not.1 h40)
            subst this
            refine ⟨?_, ?_, ?_, ?_⟩
            · rw [y2]
              simp [encL]
            · simp [ckR, y3]
            · simp only [dd, Bool.true_eq_false, if_false]; omega
            · simp only [nn, Bool.true_eq_false, if_false]; omega
/-- What is read is valid, and the bytes that were read are its encoding. -/
theorem read_canon {l : List UInt8} {x : Sx} {k : Nat} {r : List UInt8} (h : rdS 12 0 l = .ok (x, k, r)) : l = encL x ++ r ∧ ckG x = 0 := by
  obtain ⟨e1, e2, e3, e4⟩ := rdS_canon 12 _ _ _ _ _ h
  refine ⟨e1, ?_⟩
  have hk : k ≤ 20000 := ((rdS_sound 12 0 l (by omega)).1 x k r h).2.2
  unfold ckG
  rw [(madd_is x 0 1).1 ⟨by omega, by omega⟩, if_neg (by simp), shape_eq]
  exact e2
end Go.Proofs.YtoclmkbjgmgekaaDoor

/- What functions come to: printed by exf.py. -/
namespace Go.Proofs.YtoclmkbjgmgekaaDoor
set_option linter.unusedVariables false
set_option linter.unusedSimpArgs false
set_option linter.unusedSectionVars false
open Go.RowKit
attribute [local irreducible] dfun dround
/-- quilt/quiltref01.encode -/
def H45 : List (Nat × Hint) := [(5, ⟨[((1, []), none)], [(1, .pt 0 0), (3, .leaf), (4, .leaf)], [.cells [.leaf, .leaf, .leaf]], [.str, .int .i64, .bool, .str, .sl .sexp]⟩)]
def J45 : List (Nat × Hint) := []
abbrev S45 : List Sh := [.ag [.leaf, .leaf, .leaf]]
abbrev L45 : List Lf := [.bool, .str, .sl .sexp]
def spz45 (Z : prodL L45 → Prop) : Sp := ⟨S45, L45, Z, fun g => .str (encB ⟨g.1, g.2.1, g.2.2.1⟩), fun _ => none⟩
def F45_B2 (K : Kn) (Z : prodL L45 → Prop) (W2 : prodL [.str, .int .i64, .bool, .str, .sl .sexp] → Prop) (s_1 : ByteArray) (i_1 : Int) (x1_1 : Bool) (x2_1 : ByteArray) (x3_1 : List Sx) : Prop :=
  bif decide (i_1 < (x3_1.length : Int)) then (
    At x3_1 i_1 fun u3 =>
  Z (u3.isList, u3.atom, u3.list, ()) ∧
  Room (s_1.size + (encB ⟨u3.isList, u3.atom, u3.list⟩).size) 1 (
  W2 (s_1 ++ (encB ⟨u3.isList, u3.atom, u3.list⟩), IntKind.i64.wrap (i_1 + 1), x1_1, x2_1, x3_1, ())))
  else (
    Room (s_1.size + (⟨#[41]⟩ : ByteArray).size) 1 (
  K (.str (s_1 ++ (⟨#[41]⟩ : ByteArray))) []))
def F45_L2 (K : Kn) (Z : prodL L45 → Prop) (g : prodL [.str, .int .i64, .bool, .str, .sl .sexp]) : Prop :=
  LoopW (γ := prodL [.str, .int .i64, .bool, .str, .sl .sexp]) (fun V y => F45_B2 K Z V y.1 y.2.1 y.2.2.1 y.2.2.2.1 y.2.2.2.2.1) g
def F45 (Z : prodL L45 → Prop) (g : prodL L45) (K : Kn) : Prop :=
  bif !g.1 then (
    sp85.pre ((g.2.1.size : Int), ()) ∧
    Room ((decB (g.2.1.size : Int)).size + (⟨#[58]⟩ : ByteArray).size) 1 (
    Room (((decB (g.2.1.size : Int)) ++ (⟨#[58]⟩ : ByteArray)).size + g.2.1.size) 1 (
    K (.str (((decB (g.2.1.size : Int)) ++ (⟨#[58]⟩ : ByteArray)) ++ g.2.1)) [])))
  else (
    F45_L2 K Z ((⟨#[40]⟩ : ByteArray), 0, g.1, g.2.1, g.2.2.1, ()))
theorem F45_eq (Z : prodL L45 → Prop) (g : prodL L45) (K X : Kn) : F45 Z g K = dfun D (gamX [] [(85, true, sp85), (45, true, spz45 Z)]) (isRaw []) H45 J45 33 [.tmp 2] (codeOf Tryd.f45) (argsT S45 L45 g) [] (settle0 K) X := by kernel_rfl
theorem F45_ok (Z : prodL L45 → Prop) (hZ : (spz45 Z).Ok Tryd.prog 45 true) (g : prodL L45) (K X : Kn) (h : F45 Z g K) : FCalls Tryd.prog 45 (argsT S45 L45 g) [] K X :=
  FCalls.settle0 (dfun_sound (Γ := gamX [] [(85, true, sp85), (45, true, spz45 Z)]) (mu := isRaw []) (H := H45) (J := J45) D_ok (gamX_ok (rs := []) (l := [(85, true, sp85), (45, true, spz45 Z)]) (fun p hp => by cases hp) (by intro p hp; simp only [List.mem_cons, List.not_mem_nil, or_false] at hp; rcases hp with rfl | rfl <;> first | exact sp85_ok | exact hZ)) gamX_det rfl Tryd.func45 (c := codeOf Tryd.f45) rfl Tryd.ntmps45 (rs := [.tmp 2]) Tryd.results45 (by unfold enters; rw [Tryd.func45]; kernel_rfl) (Nat.le_of_ble_eq_true (by kernel_rfl)) (X := X) (c0 := 0) (Eq.mp (F45_eq Z g K X) h))
end Go.Proofs.YtoclmkbjgmgekaaDoor

/-
  Csexp: encode (the reference's).
-/
namespace Go.Proofs.YtoclmkbjgmgekaaDoor
set_option linter.unusedVariables false
set_option linter.unusedSimpArgs false
set_option linter.unusedSectionVars false
open Go.RowKit

mutual
theorem encL_len : ∀ x : Sx, bkS x ≤ lim → (encL x).length ≤ 22 * bkS x
  | ⟨b, a, l⟩, h => by
    simp only [bkS] at h ⊢
    simp only [encL]
    have hl := lim_eq
    split
    · have := dec_len 19 a.size (by omega)
      have := bl_len a
      simp only [List.length_append, List.length_cons]; omega
    · have := encLs_len l (by omega)
      simp only [List.length_append, List.length_cons, List.length_nil]; omega
theorem encLs_len : ∀ l : List Sx, bkSs l ≤ lim → (encLs l).length ≤ 22 * bkSs l
  | [], _ => by simp [encLs, bkSs]
  | x :: l, h => by
    simp only [bkSs] at h ⊢
    have := encL_len x (by omega)
    have := encLs_len l (by omega)
    simp only [encLs, List.length_append]; omega
end
theorem encB_size {x : Sx} (h : bkS x ≤ lim) : (encB x).size ≤ 22 * bkS x := by
  rw [← bl_len, encB_bl]; exact encL_len x h
theorem size_app (a b : ByteArray) : (a ++ b).size = a.size + b.size := ByteArray.size_append
theorem F45_is {Z : prodL L45 → Prop} {b : Bool} {a : ByteArray} {l : List Sx} {K : Kn} (hk : bkS ⟨b, a, l⟩ ≤ lim) (hZ : ∀ x ∈ l, Z (x.isList, x.atom, x.list, ())) (h : K (.str (encB ⟨b, a, l⟩)) []) : F45 Z (b, a, l, ()) K := by
  obtain ⟨hs, hsz, hbl, _⟩ := small hk
  have hl := lim_eq
  unfold F45
  simp only [encB] at h
  dsimp only [Lf.ty, prodL] at h ⊢
  cases b
  · simp only [if_true, Bool.not_false, cond_true] at h ⊢
    have hn : intP (a.size : Int) := (⟨by omega, by omega⟩ : -9223372036854775808 ≤ (a.size : Int) ∧ (a.size : Int) ≤ 9223372036854775807)
    have hd := decB_size hn
    refine ⟨hn, ?_, ?_, h⟩
    · show ((decB (a.size : Int)).size + 1) * 1 ≤ 140737488355328
      omega
    · rw [size_app]
      show ((decB (a.size : Int)).size + 1 + a.size) * 1 ≤ 140737488355328
      omega
  · simp only [Bool.true_eq_false, if_false, Bool.not_true, cond_false] at h ⊢
    unfold F45_L2
    refine LoopW.fold l (fun n (s : ByteArray) => (s, (n : Int), true, a, l, ())) (fun r _ s => K (.str (encBs r s ++ ⟨#[41]⟩)) [] ∧ s.size + 22 * bkSs r ≤ 22 * lim + 1) (a0 := ⟨#[40]⟩) rfl ⟨h, by show 1 + _ ≤ _; omega⟩ (fun s hp W => ?_) (fun n hn r s hr hp W hW => ?_)
    · obtain ⟨p1, p2⟩ := hp
      unfold F45_B2
      rw [bif_dec, if_neg (by dsimp only; omega)]
      refine ⟨?_, p1⟩
      show (s.size + 1) * 1 ≤ 140737488355328
      simp only [bkSs] at p2
      omega
    · obtain ⟨p1, p2⟩ := hp
      unfold F45_B2
      rw [bif_dec, if_pos (by dsimp only; omega)]
      have hx : bkS l[n] ≤ bkSs l := mem_bk (List.getElem_mem hn)
      have hz := encB_size (x := l[n]) (by omega)
      simp only [bkSs] at p2
      refine At_of hn ⟨hZ _ (List.getElem_mem hn), ?_, ?_⟩
      · rw [Sx.eta]
        dsimp only
        omega
      · rw [Sx.eta, wrapS hn hs]
        refine hW (s ++ encB l[n]) ⟨p1, ?_⟩
        rw [size_app]; omega
def sp45 : Sp := spz45 bkP
theorem sp45_all : ∀ n, (spz45 fun g => bkP g ∧ nodesS ⟨g.1, g.2.1, g.2.2.1⟩ < n).Ok Tryd.prog 45 true
  | 0 => ⟨fun _ _ _ h _ => absurd h.2 (Nat.not_lt_zero _), fun _ _ _ => rfl, fun _ => rfl, fun _ _ => ⟨rfl, rfl⟩⟩
  | n + 1 => ⟨fun g _ X hp h => F45_ok _ (sp45_all n) _ _ X (F45_is hp.1 (fun x hx => ⟨((small hp.1).2.2.2 x hx).1, by have := ((small hp.1).2.2.2 x hx).2; have := hp.2; dsimp only at *; omega⟩) h), fun _ _ _ => rfl, fun _ => rfl, fun _ _ => ⟨rfl, rfl⟩⟩
theorem sp45_ok : sp45.Ok Tryd.prog 45 true :=
  ⟨fun g K X hp h => (sp45_all (nodesS ⟨g.1, g.2.1, g.2.2.1⟩ + 1)).calls g K X ⟨hp, Nat.lt_succ_self _⟩ h, fun _ _ _ => rfl, fun _ => rfl, fun _ _ => ⟨rfl, rfl⟩⟩
/-- Encode, of both. -/
def enT (x : Sx) : ByteArray × Int := if ckG x = 0 then (encB x, 0) else (⟨#[]⟩, ckG x)
end Go.Proofs.YtoclmkbjgmgekaaDoor

/- What functions come to: printed by exf.py. -/
namespace Go.Proofs.YtoclmkbjgmgekaaDoor
set_option linter.unusedVariables false
set_option linter.unusedSimpArgs false
set_option linter.unusedSectionVars false
open Go.RowKit
attribute [local irreducible] dfun dround
/-- quilt/quiltref01.Encode -/
def H31 : List (Nat × Hint) := []
def J31 : List (Nat × Hint) := []
abbrev S31 : List Sh := [.ag [.leaf, .leaf, .leaf]]
abbrev L31 : List Lf := [.bool, .str, .sl .sexp]
def F31 (g : prodL L31) (K : Kn) : Prop :=
  sp44.pre (g.1, g.2.1, g.2.2.1, ()) ∧
  bif !decide (ckN ⟨g.1, g.2.1, g.2.2.1⟩ = 0) then (
    K (.tu [.str (⟨#[]⟩ : ByteArray), .int .i64 (ckN ⟨g.1, g.2.1, g.2.2.1⟩)]) [])
  else (
    sp45.pre (g.1, g.2.1, g.2.2.1, ()) ∧
  K (.tu [.str (encB ⟨g.1, g.2.1, g.2.2.1⟩), .int .i64 0]) [])
theorem F31_eq (g : prodL L31) (K X : Kn) : F31 g K = dfun D (gamX [] [(44, true, sp44), (45, true, sp45)]) (isRaw []) H31 J31 12 [.tmp 2, .tmp 3] (codeOf Tryd.f31) (argsT S31 L31 g) [] (settle0 K) X := by kernel_rfl
theorem F31_ok (g : prodL L31) (K X : Kn) (h : F31 g K) : FCalls Tryd.prog 31 (argsT S31 L31 g) [] K X :=
  FCalls.settle0 (dfun_sound (Γ := gamX [] [(44, true, sp44), (45, true, sp45)]) (mu := isRaw []) (H := H31) (J := J31) D_ok (gamX_ok (rs := []) (l := [(44, true, sp44), (45, true, sp45)]) (fun p hp => by cases hp) (by intro p hp; simp only [List.mem_cons, List.not_mem_nil, or_false] at hp; rcases hp with rfl | rfl <;> first | exact sp44_ok | exact sp45_ok)) gamX_det rfl Tryd.func31 (c := codeOf Tryd.f31) rfl Tryd.ntmps31 (rs := [.tmp 2, .tmp 3]) Tryd.results31 (by unfold enters; rw [Tryd.func31]; kernel_rfl) (Nat.le_of_ble_eq_true (by kernel_rfl)) (X := X) (c0 := 0) (Eq.mp (F31_eq g K X) h))
end Go.Proofs.YtoclmkbjgmgekaaDoor

/-
  Csexp: Encode, as a contract (csexp's under a hypothesis: strings.Builder).
-/
namespace Go.Proofs.YtoclmkbjgmgekaaDoor
set_option linter.unusedVariables false
set_option linter.unusedSimpArgs false
set_option linter.unusedSectionVars false
open Go.RowKit

def sp31 : Sp := ⟨S31, L31, bkP, fun g => .tu [.str (enT ⟨g.1, g.2.1, g.2.2.1⟩).1, .int .i64 (enT ⟨g.1, g.2.1, g.2.2.1⟩).2], fun _ => none⟩
theorem sp31_ok : sp31.Ok Tryd.prog 31 true :=
  ⟨by
    rintro ⟨b, a, l, ⟨⟩⟩ K X q1 h
    have h : K (.tu [.str (enT ⟨b, a, l⟩).1, .int .i64 (enT ⟨b, a, l⟩).2]) [] := h
    refine F31_ok (b, a, l, ()) K X ⟨q1, ?_⟩
    unfold enT at h
    rw [check_eq] at h
    dsimp only
    rw [bif_ndec]
    by_cases h0 : ckN ⟨b, a, l⟩ = 0
    · rw [if_pos h0] at h
      rw [if_pos h0]
      exact ⟨q1, h⟩
    · rw [if_neg h0] at h
      rw [if_neg h0]
      exact h, fun _ _ _ => rfl, fun _ => rfl, fun _ _ => ⟨rfl, rfl⟩⟩
/-- csexp.Encode, where its contract is at hand. -/
def EncodeOk : Prop := sp31.Ok Tryd.prog 40 true
def sp40 : Sp := ⟨S31, L31, fun g => bkP g ∧ EncodeOk, sp31.res, fun _ => none⟩
theorem sp40_ok : sp40.Ok Tryd.prog 40 true :=
  ⟨fun g K X hp h => hp.2.calls g K X hp.1 h, fun _ _ _ => rfl, fun _ => rfl, fun _ _ => ⟨rfl, rfl⟩⟩
end Go.Proofs.YtoclmkbjgmgekaaDoor

/- What functions come to: printed by exf.py. -/
namespace Go.Proofs.YtoclmkbjgmgekaaDoor
set_option linter.unusedVariables false
set_option linter.unusedSimpArgs false
set_option linter.unusedSectionVars false
open Go.RowKit
attribute [local irreducible] dfun dround
end Go.Proofs.YtoclmkbjgmgekaaDoor

/-
  Csexp: the laws Check, RoundTrip, Canonical, Short, where Encode's contract is at hand.
-/
namespace Go.Proofs.YtoclmkbjgmgekaaDoor
set_option linter.unusedVariables false
set_option linter.unusedSimpArgs false
set_option linter.unusedSectionVars false
open Go.RowKit

theorem en_ok {x : Sx} (h : ckG x = 0) : enT x = (encB x, 0) := by unfold enT; rw [if_pos h]
theorem en_no {x : Sx} (h : ckG x ≠ 0) : enT x = (⟨#[]⟩, ckG x) := by unfold enT; rw [if_neg h]
theorem rdT_ok {s : ByteArray} {x : Sx} {k : Nat} {r : List UInt8} (h : rdS 12 0 (bl s) = .ok (x, k, r)) : rdT s = (x, (s.size : Int) - (r.length : Int), 0) := by unfold rdT; rw [h]
theorem rdT_no {s : ByteArray} {e : Int} (h : rdS 12 0 (bl s) = .err e) : rdT s = (sx0, 0, e) := by unfold rdT; rw [h]; rfl
theorem rdT_enc {x : Sx} (h : ckG x = 0) (r : ByteArray) : rdT (encB x ++ r) = (x, ((encB x).size : Int), 0) := by
  rw [rdT_ok (s := encB x ++ r) (by rw [bl_app, encB_bl]; exact read_enc h (bl r)), size_app, bl_len]
  simp only [Prod.mk.injEq, true_and, and_true]; omega
theorem dcT_enc {x : Sx} (h : ckG x = 0) : dcT (encB x) = (x, 0) := by
  have := rdT_enc h ⟨#[]⟩
  have e : encB x ++ (⟨#[]⟩ : ByteArray) = encB x := by apply bl_inj; rw [bl_app]; exact List.append_nil _
  rw [e] at this
  unfold dcT
  rw [this, if_pos rfl, if_pos rfl]
end Go.Proofs.YtoclmkbjgmgekaaDoor

/-
  Csexp: the law Short, where Encode's contract is at hand.
-/
namespace Go.Proofs.YtoclmkbjgmgekaaDoor
set_option linter.unusedVariables false
set_option linter.unusedSimpArgs false
set_option linter.unusedSectionVars false
open Go.RowKit

theorem bl_pre (s : ByteArray) (m : Nat) : bl (s.extract (0 : Int).toNat m) = (bl s).take m := by
  rw [bl_extract]; rfl
theorem pre_top {s : ByteArray} (h : s.size ≤ 2147483648) (m : Nat) : topP (s.extract (0 : Int).toNat m) := by
  show (s.extract _ _).size ≤ _
  rw [← bl_len, bl_pre, List.length_take, bl_len]; omega
theorem pre_short {s : ByteArray} {m : Nat} (h : rdS 12 0 ((bl s).take m) = .err 11) : (rdT (s.extract (0 : Int).toNat m)).2.2 = 11 := by
  rw [rdT_no (by rw [bl_pre]; exact h)]
theorem tmod_lt {k n : Int} (h1 : 0 ≤ k) (h2 : 0 < n) : 0 ≤ Int.tmod k n ∧ Int.tmod k n < n :=
  ⟨Int.tmod_nonneg _ h1, Int.tmod_lt_of_pos _ h2⟩
end Go.Proofs.YtoclmkbjgmgekaaDoor

/-
  Csexp: the law Stream, where Encode's contract is at hand.
-/
namespace Go.Proofs.YtoclmkbjgmgekaaDoor
set_option linter.unusedVariables false
set_option linter.unusedSimpArgs false
set_option linter.unusedSectionVars false
open Go.RowKit

theorem encLs_app : ∀ (l m : List Sx), encLs (l ++ m) = encLs l ++ encLs m
  | [], m => rfl
  | x :: l, m => by simp [encLs, encLs_app l m]
end Go.Proofs.YtoclmkbjgmgekaaDoor
