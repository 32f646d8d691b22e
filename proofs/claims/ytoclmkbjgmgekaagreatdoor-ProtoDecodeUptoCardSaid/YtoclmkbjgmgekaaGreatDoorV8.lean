import Derived.Test.YtoclmkbjgmgekaaGreatDoorCards
import Derived.LaidLaws
import Derived.LaidHandle
import Derived.MakeChecks
import Derived.LaidMore
import Derived.OpenShut
import Derived.ProofKit
import Derived.Stop.Joined
import Derived.JoinedCond
import Derived.Test.YtoclmkbjgmgekaaGreatDoorV7
set_option linter.unusedVariables false
set_option linter.unusedSimpArgs false
set_option linter.unusedSectionVars false
namespace Go.Proofs.YtoclmkbjgmgekaaGreatDoor
open Go.RowKit
def rfOk (a b c d e f : Sx) : Bool := (eachR rdDig [a, b, e]).2 && (decide ((nmG d).2 = 0) && (f.isList && ((eachR rdDig f.list).2 && (!c.isList && (decide (c.atom = ⟨#[48]⟩) || decide (c.atom = ⟨#[49]⟩))))))
def rfRng (x : Sx) : Rng × Bool := match x.isList, x.list with
 | true, [a, b, c, d, e, f] => if rfOk a b c d e f = true then (⟨(rdDig a).1, (rdDig b).1, decide (c.atom = ⟨#[49]⟩), (rdNum d).1, (rdDig e).1, (eachR rdDig f.list).1⟩, true) else (rz, false)
 | _, _ => (rz, false)
def rfSig (x : Sx) : Sgn × Bool := match x.isList, x.list with
 | true, [a, b, c, d] => (⟨(rdNum a).1, (eachR rdDig b.list).1, (eachR rdDig c.list).1, (eachR rdDig d.list).1⟩, (rdNum a).2 && ((eachR rdDig b.list).2 && ((eachR rdDig c.list).2 && ((eachR rdDig d.list).2 && (b.isList && (c.isList && d.isList))))))
 | _, _ => (sgn0, false)
def rf5 (m : Msg) (l : List Sx) : Msg × Bool := match l with
 | [a, b, c] => if a.isList = true ∨ b.isList = false then (m, false) else if (eachR rdDig b.list).2 = false then ({ m with name := a.atom, ids := (eachR rdDig b.list).1 }, false)
  else ({ m with name := a.atom, ids := (eachR rdDig b.list).1, sig := (rfSig c).1 }, (rfSig c).2)
 | _ => (m, false)
def rf6 (m : Msg) (l : List Sx) : Msg × Bool := match l with
 | [a, b] => if b.isList = true then (m, false) else ({ m with code := (rdNum a).1, text := b.atom }, (rdNum a).2)
 | _ => (m, false)
def rfF (m : Msg) (l : List Sx) : Msg × Bool :=
 if m.kind = 1 then ({ m with ranges := (eachR rfRng l).1 }, (eachR rfRng l).2) else if m.kind = 2 then ({ m with ids := (eachR rdDig l).1 }, (eachR rdDig l).2)
 else if m.kind = 3 then ({ m with patches := (eachR rdText l).1 }, (eachR rdText l).2) else if m.kind = 4 then (m, decide (l.length = 0))
 else if m.kind = 5 then rf5 m l else if m.kind = 6 then rf6 m l else if m.kind = 7 then ({ m with paths := (eachR rdText l).1 }, (eachR rdText l).2) else (m, true)
def kindM (k : Int) : Msg := { mz with kind := k }
def rfX (x : Sx) : Msg × Int := match x.isList, x.list with
 | true, a :: l => if a.isList = false /\ kindW a.atom ≠ 0 /\ (rfF (kindM (kindW a.atom)) l).2 = true /\ (chk (rfF (kindM (kindW a.atom)) l).1).2 = 0 then ((rfF (kindM (kindW a.atom)) l).1, 0) else (mz, 12)
 | _, _ => (mz, 12)
def rfT (s : ByteArray) : Msg × Int := if (dcT s).2 = 0 then rfX (dcT s).1 else (mz, 12)
theorem dcT_canon {s : ByteArray} (h : (dcT s).2 = 0) : ckG (dcT s).1 = 0 /\ encB (dcT s).1 = s := by
 cases hr : rdS 12 0 (bl s) with
 | err e =>
  have he : ¬ e = 0 := by rcases rd_err hr with rfl | rfl <;> decide
  have hd : dcT s = (sx0, e) := by unfold dcT; rw [rdT_no hr]; exact if_neg he
  rw [hd] at h
  exact absurd h he
 | ok v =>
  obtain ⟨x, k, r⟩ := v
  obtain ⟨c1, c2⟩ := read_canon hr
  have hlen := congrArg List.length c1
  rw [bl_len, List.length_append] at hlen
  by_cases hlt : (s.size : Int) - (r.length : Int) < (s.size : Int)
  . have hd : dcT s = (sx0, 12) := by unfold dcT; rw [rdT_ok hr, if_pos rfl, if_neg (by dsimp only; omega)]
    rw [hd] at h
    exact absurd h (by decide)
  . have hd : dcT s = (x, 0) := by unfold dcT; rw [rdT_ok hr, if_pos rfl, if_pos (by dsimp only; omega)]
    rw [hd]
    refine ⟨c2, bl_inj ?_⟩
    have : r = [] := List.eq_nil_of_length_eq_zero (by omega)
    rw [encB_bl, c1, this, List.append_nil]
theorem ckR_of {x : Sx} (h : ckG x = 0) : ckR x = 0 := by
 rw [check_eq] at h
 unfold ckN at h
 split at h
 . exact absurd h (by decide)
 . exact h
theorem ckRs_mem : ∀ {l : List Sx}, ckRs l = 0 -> ∀ y ∈ l, ckR y = 0
 | [], _, y, hy => by simp at hy
 | x :: l, h, y, hy => by
  simp only [ckRs] at h
  split at h
  . rename_i hx
    rcases List.mem_cons.1 hy with rfl | hy
    . exact hx
    . exact ckRs_mem h y hy
  . rename_i hx; exact absurd h hx
theorem atom_of {y : Sx} (h : ckR y = 0) (hl : y.isList = false) : y = atomX y.atom := by
 obtain ⟨b, a, l⟩ := y
 dsimp only at hl
 subst hl
 simp only [ckR, if_true] at h
 split at h
 . exact absurd h (by decide)
 . rename_i h0
   have : l = [] := List.eq_nil_of_length_eq_zero (by omega)
   rw [this]; rfl
theorem list_of {y : Sx} (h : ckR y = 0) (hl : y.isList = true) : y = listX y.list /\ ∀ z ∈ y.list, ckR z = 0 := by
 obtain ⟨b, a, l⟩ := y
 dsimp only at hl
 subst hl
 simp only [ckR, Bool.true_eq_false, if_false] at h
 split at h
 . exact absurd h (by decide)
 . rename_i h0
   have : a = ⟨#[]⟩ := Decidable.byContradiction h0
   rw [this]
   exact ⟨rfl, ckRs_mem h⟩
theorem cpy_at {s : ByteArray} {i : Nat} (h : i < s.size) : UInt8.ofNat (cpyB s i 0).toNat = (bl s)[i]'(by rw [bl_len]; exact h) := by
 have h1 : i < s.data.size := h
 have e : s[i]? = some s.data[i] := getElem?_pos s i h
 unfold cpyB
 rw [e]
 show UInt8.ofNat ((s.data[i].toNat : Int)).toNat = _
 rw [Int.toNat_natCast]
 rw [UInt8.ofNat_toNat]
 rfl
theorem digA_back {x : Sx} (h : x.atom.size = 32) : dstr (digA x) = x.atom := by
 apply bl_inj
 have hl : (bl x.atom).length = 32 := by rw [bl_len]; exact h
 have e : bl (dstr (digA x)) = (digL (digA x)).map fun n => UInt8.ofNat n.toNat := bl_mk _
 rw [e]
 have e2 : (digL (digA x)).map (fun n => UInt8.ofNat n.toNat) = (List.range 32).map fun i => UInt8.ofNat (cpyB x.atom i 0).toNat := rfl
 rw [e2]
 apply List.ext_getElem
 . simp [hl]
 . intro i h1 h2
   rw [List.getElem_map, List.getElem_range]
   exact cpy_at (by simp at h1; omega)
theorem dig_fwd {y : Sx} (hc : ckR y = 0) (h : (rdDig y).2 = true) : atomX (dstr (rdDig y).1) = y := by
 obtain ⟨h1, h2, h3⟩ := rdDig_ok h
 rw [h3, digA_back h2]
 exact (atom_of hc h1).symm
theorem each_fwd {α : Type} {f : Sx -> α × Bool} {g : α -> Sx} {l : List Sx} (h : (eachR f l).2 = true) (hg : ∀ y ∈ l, (f y).2 = true -> g (f y).1 = y) : (eachR f l).1.map g = l := by
 unfold eachR at h ⊢
 split at h
 . rename_i ha
   rw [if_pos ha, List.map_map]
   have ha := List.all_eq_true.1 ha
   have : l.map (g ∘ fun x => (f x).1) = l.map id := List.map_congr_left fun y hy => hg y hy (ha y hy)
   rw [this, List.map_id]
 . simp at h
theorem digs_fwd {l : List Sx} (hc : ∀ y ∈ l, ckR y = 0) (h : (eachR rdDig l).2 = true) : digsX (eachR rdDig l).1 = l := each_fwd h fun y hy k => dig_fwd (hc y hy) k
theorem digsL_fwd {y : Sx} (hc : ckR y = 0) (hl : y.isList = true) (h : (eachR rdDig y.list).2 = true) : listX (digsX (eachR rdDig y.list).1) = y := by
 obtain ⟨h1, h2⟩ := list_of hc hl
 rw [digs_fwd h2 h]
 exact h1.symm
theorem texts_fwd {l : List Sx} (hc : ∀ y ∈ l, ckR y = 0) (h : (eachR rdText l).2 = true) : atomsX (eachR rdText l).1 = l := each_fwd h fun y hy k => by
 have hl : y.isList = false := by
  have : (!y.isList) = true := k
  simpa using this
 exact (atom_of (hc y hy) hl).symm
theorem num_fwd {y : Sx} (hc : ckR y = 0) (h : (rdNum y).2 = true) : numX (rdNum y).1 = y := by
 have h0 : (nmG y).2 = 0 := of_decide_eq_true h
 show (intB (nmG y).1).1 = y
 unfold nmG nmB at h0 ⊢
 generalize ckG y = e at h0 ⊢
 split at h0
 . rename_i he
   rw [if_pos he]
   split at h0
   . exact absurd h0 (by decide)
   . rename_i hl
     rw [if_neg hl]
     split at h0
     . rename_i hcan
       rw [if_pos hcan]
       obtain ⟨k1, k2⟩ := itoa_num hcan (m := (numV (bl y.atom)).1) (Prod.ext rfl h0)
       have hl : y.isList = false := by simpa using hl
       have hm : intB (numV (bl y.atom)).1 = (⟨false, decB (numV (bl y.atom)).1, []⟩, 0) := by unfold intB; rw [if_neg k2]
       rw [hm, show decB (numV (bl y.atom)).1 = y.atom from bl_inj (by rw [bl_dec]; exact k1)]
       exact (atom_of hc hl).symm
     . exact absurd h0 (by decide)
 . rename_i he; exact absurd h0 he
theorem tru_fwd {y : Sx} (hc : ckR y = 0) (hl : y.isList = false) (h : y.atom = ⟨#[48]⟩ ∨ y.atom = ⟨#[49]⟩) : atomX (truB (decide (y.atom = ⟨#[49]⟩))) = y := by
 rw [atom_of hc hl]
 rcases h with h | h
 . show atomX (truB (decide (y.atom = ⟨#[49]⟩))) = atomX y.atom
   rw [h]; rfl
 . show atomX (truB (decide (y.atom = ⟨#[49]⟩))) = atomX y.atom
   rw [h]; rfl
theorem each3 {a b c : Sx} (h : (eachR rdDig [a, b, c]).2 = true) : (rdDig a).2 = true /\ (rdDig b).2 = true /\ (rdDig c).2 = true /\ (eachR rdDig [a, b, c]).1 = [(rdDig a).1, (rdDig b).1, (rdDig c).1] := by
 unfold eachR at h ⊢
 split at h
 . rename_i ha
   rw [if_pos ha]
   simp only [List.all_cons, List.all_nil, Bool.and_true, Bool.and_eq_true] at ha
   exact ⟨ha.1, ha.2.1, ha.2.2, rfl⟩
 . simp at h
theorem rfRng_ok {x : Sx} (h : (rfRng x).2 = true) : ∃ a b c d e f, x.isList = true /\ x.list = [a, b, c, d, e, f] /\ (rdDig a).2 = true /\ (rdDig b).2 = true /\ (rdDig e).2 = true /\ (rdNum d).2 = true /\ f.isList = true /\ (eachR rdDig f.list).2 = true /\ c.isList = false /\ (c.atom = ⟨#[48]⟩ ∨ c.atom = ⟨#[49]⟩) /\
  (rfRng x).1 = ⟨(rdDig a).1, (rdDig b).1, decide (c.atom = ⟨#[49]⟩), (rdNum d).1, (rdDig e).1, (eachR rdDig f.list).1⟩ := by
 unfold rfRng at h ⊢
 split at h
 . rename_i a b c d e f e1 e2
   split at h
   . rename_i hk
     rw [if_pos hk]
     unfold rfOk at hk
     simp only [Bool.and_eq_true, Bool.or_eq_true, Bool.not_eq_true', decide_eq_true_eq] at hk
     obtain ⟨k1, k4, k5, k6, k7, k8⟩ := hk
     obtain ⟨k1, k2, k3, _⟩ := each3 k1
     exact ⟨a, b, c, d, e, f, e1, e2, k1, k2, k3, decide_eq_true k4, k5, k6, k7, k8, rfl⟩
   . simp at h
 . simp at h
theorem span_fwd {x : Sx} (hc : ckR x = 0) (h : (rfRng x).2 = true) : spanX (rfRng x).1 = x := by
 obtain ⟨a, b, c, d, e, f, e1, e2, k1, k2, k3, k4, k5, k6, k7, k8, k9⟩ := rfRng_ok h
 obtain ⟨l1, l2⟩ := list_of hc e1
 rw [e2] at l1 l2
 rw [k9, l1]
 show listX [atomX (dstr (rdDig a).1), atomX (dstr (rdDig b).1), atomX (truB (decide (c.atom = ⟨#[49]⟩))), numX (rdNum d).1, atomX (dstr (rdDig e).1), listX (digsX (eachR rdDig f.list).1)] = _
 rw [dig_fwd (l2 a (by simp)) k1, dig_fwd (l2 b (by simp)) k2, tru_fwd (l2 c (by simp)) k7 k8, num_fwd (l2 d (by simp)) k4, dig_fwd (l2 e (by simp)) k3, digsL_fwd (l2 f (by simp)) k5 k6]
theorem ranges_fwd {l : List Sx} (hc : ∀ y ∈ l, ckR y = 0) (h : (eachR rfRng l).2 = true) : rangesX (eachR rfRng l).1 = l := each_fwd h fun y hy k => span_fwd (hc y hy) k
theorem rfSig_ok {x : Sx} (h : (rfSig x).2 = true) : ∃ a b c d, x.isList = true /\ x.list = [a, b, c, d] /\ (rdNum a).2 = true /\ (eachR rdDig b.list).2 = true /\ (eachR rdDig c.list).2 = true /\ (eachR rdDig d.list).2 = true /\ b.isList = true /\ c.isList = true /\ d.isList = true /\
  (rfSig x).1 = ⟨(rdNum a).1, (eachR rdDig b.list).1, (eachR rdDig c.list).1, (eachR rdDig d.list).1⟩ := by
 unfold rfSig at h ⊢
 split at h
 . rename_i a b c d e1 e2
   simp only [Bool.and_eq_true] at h
   obtain ⟨k1, k2, k3, k4, k5, k6, k7⟩ := h
   exact ⟨a, b, c, d, e1, e2, k1, k2, k3, k4, k5, k6, k7, rfl⟩
 . simp at h
theorem sig_fwd {x : Sx} (hc : ckR x = 0) (h : (rfSig x).2 = true) : sigX (rfSig x).1 = x := by
 obtain ⟨a, b, c, d, e1, e2, k1, k2, k3, k4, k5, k6, k7, k8⟩ := rfSig_ok h
 obtain ⟨l1, l2⟩ := list_of hc e1
 rw [e2] at l1 l2
 rw [k8, l1]
 show listX [numX (rdNum a).1, listX (digsX (eachR rdDig b.list).1), listX (digsX (eachR rdDig c.list).1), listX (digsX (eachR rdDig d.list).1)] = _
 rw [num_fwd (l2 a (by simp)) k1, digsL_fwd (l2 b (by simp)) k5 k2, digsL_fwd (l2 c (by simp)) k6 k3, digsL_fwd (l2 d (by simp)) k7 k4]
theorem rfF_cases {k : Int} {l : List Sx} {P : Msg × Bool -> Prop} (h1 : k = 1 -> P ({ kindM 1 with ranges := (eachR rfRng l).1 }, (eachR rfRng l).2)) (h2 : k = 2 -> P ({ kindM 2 with ids := (eachR rdDig l).1 }, (eachR rdDig l).2)) (h3 : k = 3 -> P ({ kindM 3 with patches := (eachR rdText l).1 }, (eachR rdText l).2)) (h4 : k = 4 -> P (kindM 4, decide (l.length = 0))) (h5 : k = 5 -> P (rf5 (kindM 5) l)) (h6 : k = 6 -> P (rf6 (kindM 6) l)) (h7 : k = 7 -> P ({ kindM 7 with paths := (eachR rdText l).1 }, (eachR rdText l).2)) (hk : k = 1 ∨ k = 2 ∨ k = 3 ∨ k = 4 ∨ k = 5 ∨ k = 6 ∨ k = 7) : P (rfF (kindM k) l) := by
 rcases hk with rfl | rfl | rfl | rfl | rfl | rfl | rfl
 . exact h1 rfl
 . exact h2 rfl
 . exact h3 rfl
 . exact h4 rfl
 . exact h5 rfl
 . exact h6 rfl
 . exact h7 rfl
theorem kindW_cases (s : ByteArray) : kindW s = 0 ∨ (kindW s = 1 ∨ kindW s = 2 ∨ kindW s = 3 ∨ kindW s = 4 ∨ kindW s = 5 ∨ kindW s = 6 ∨ kindW s = 7) /\ wordN (kindW s) = s := by
 unfold kindW
 repeat' split
 all_goals first
  | (rename_i h; exact .inr ⟨by decide, h.symm⟩)
  | exact .inl rfl
theorem rfF_fwd {k : Int} {l : List Sx} (hk : k = 1 ∨ k = 2 ∨ k = 3 ∨ k = 4 ∨ k = 5 ∨ k = 6 ∨ k = 7) (hc : ∀ y ∈ l, ckR y = 0) : (rfF (kindM k) l).2 = true -> fieldsX (rfF (kindM k) l).1 = l /\ (rfF (kindM k) l).1.kind = k := by
 refine rfF_cases (P := fun r => r.2 = true -> fieldsX r.1 = l /\ r.1.kind = k) (fun e h => ?_) (fun e h => ?_) (fun e h => ?_) (fun e h => ?_) (fun e h => ?_) (fun e h => ?_) (fun e h => ?_) hk
 . exact ⟨ranges_fwd hc h, e.symm⟩
 . exact ⟨digs_fwd hc h, e.symm⟩
 . exact ⟨texts_fwd hc h, e.symm⟩
 . refine ⟨?_, e.symm⟩
   have := of_decide_eq_true h
   exact (List.eq_nil_of_length_eq_zero this).symm
 . revert h
   unfold rf5
   split
   . rename_i a b c
     split
     . intro h; simp at h
     . rename_i h1
       split
       . intro h; simp at h
       . rename_i h2
         intro h
         have hb : b.isList = true := by cases hh : b.isList with
          | true => rfl
          | false => exact absurd (Or.inr hh) h1
         have ha : a.isList = false := by cases hh : a.isList with
          | false => rfl
          | true => exact absurd (Or.inl hh) h1
         refine ⟨?_, e.symm⟩
         show [atomX a.atom, listX (digsX (eachR rdDig b.list).1), sigX (rfSig c).1] = _
         rw [digsL_fwd (hc b (by simp)) hb (by simpa using h2), sig_fwd (hc c (by simp)) h, <- atom_of (hc a (by simp)) ha]
   . intro h; simp at h
 . revert h
   unfold rf6
   split
   . rename_i a b
     split
     . intro h; simp at h
     . rename_i h1
       intro h
       refine ⟨?_, e.symm⟩
       show [numX (rdNum a).1, atomX b.atom] = _
       rw [num_fwd (hc a (by simp)) h, <- atom_of (hc b (by simp)) (by simpa using h1)]
   . intro h; simp at h
 . exact ⟨texts_fwd hc h, e.symm⟩
theorem digsR_bk {x : Sx} (h : (eachR rdDig x.list).2 = true) : ((eachR rdDig x.list).1.map bk_dig).sum + 3 <= bkS x := by
 have := each_bk (f := rdDig) (b := bk_dig) (fun x hx => by have := rdDig_bk hx; omega) h
 have h2 := bkS_eta x
 omega
theorem rfRng_wf {x : Sx} (h : (rfRng x).2 = true) : wf_rng (rfRng x).1 := by
 obtain ⟨a, b, c, d, e, f, e1, e2, k1, k2, k3, k4, k5, k6, k7, k8, k9⟩ := rfRng_ok h
 rw [k9]
 exact wf_rng_of (rdDig_wf k1) (rdDig_wf k2) (num_range d) (rdDig_wf k3) (each_all (fun _ => rdDig_wf) k6)
theorem rfRng_bk {x : Sx} (h : (rfRng x).2 = true) : bk_rng (rfRng x).1 <= bkS x := by
 obtain ⟨a, b, c, d, e, f, e1, e2, k1, k2, k3, k4, k5, k6, k7, k8, k9⟩ := rfRng_ok h
 have q1 := rdDig_bk k1
 have q2 := rdDig_bk k2
 have q3 := rdDig_bk k3
 have q6 := digsR_bk k6
 have q4 := bkS_pos c
 have q5 := bkS_pos d
 unfold bk_dig at q1 q2 q3
 rw [k9, bkS_eta, e2]
 simp only [bk_rng, bkSs]
 omega
theorem rfSig_wf {x : Sx} (h : (rfSig x).2 = true) : wf_sgn (rfSig x).1 := by
 obtain ⟨a, b, c, d, e1, e2, k1, k2, k3, k4, k5, k6, k7, k8⟩ := rfSig_ok h
 rw [k8]
 exact ⟨num_range a, each_all (fun _ => rdDig_wf) k2, each_all (fun _ => rdDig_wf) k3, each_all (fun _ => rdDig_wf) k4⟩
theorem rfSig_bk {x : Sx} (h : (rfSig x).2 = true) : bk_sgn (rfSig x).1 <= bkS x := by
 obtain ⟨a, b, c, d, e1, e2, k1, k2, k3, k4, k5, k6, k7, k8⟩ := rfSig_ok h
 have q2 := digsR_bk k2
 have q3 := digsR_bk k3
 have q4 := digsR_bk k4
 have q1 := bkS_pos a
 rw [k8, bkS_eta, e2]
 simp only [bk_sgn, bkSs]
 omega
theorem rfF_msgP {k : Int} {l : List Sx} (hk : k = 1 ∨ k = 2 ∨ k = 3 ∨ k = 4 ∨ k = 5 ∨ k = 6 ∨ k = 7) (hb : bkSs l <= 1000000) : (rfF (kindM k) l).2 = true -> msgP (rfF (kindM k) l).1 := by
 have z := i64_small (n := 0) (by decide)
 refine rfF_cases (P := fun r => r.2 = true -> msgP r.1) (fun _ h => ?_) (fun _ h => ?_) (fun _ h => ?_) (fun _ h => ?_) (fun _ h => ?_) (fun _ h => ?_) (fun _ h => ?_) hk
 . have h : (eachR rfRng l).2 = true := h
   refine ⟨⟨i64_small (n := 1) (by decide), wf_nil, each_all (fun _ => rfRng_wf) h, wf_nil, wf_nil, z, z, wf_nil, wf_nil, wf_nil⟩, ?_⟩
   have := each_bk (f := rfRng) (b := bk_rng) (fun x hx => rfRng_bk hx) h
   simp only [kindM, mz, sgn0, bk_msg, List.map_nil, List.sum_nil, nil_size]
   omega
 . exact readK_msgP (k := 2) hb h
 . exact readK_msgP (k := 3) hb h
 . exact readK_msgP (k := 4) hb h
 . revert h
   unfold rf5
   split
   . rename_i a b c
     split
     . intro h; simp at h
     . split
       . intro h; simp at h
       . rename_i h1 h2
         intro h3
         have h2 : (eachR rdDig b.list).2 = true := by simpa using h2
         have w := rfSig_wf h3
         refine ⟨⟨i64_small (n := 5) (by decide), each_all (fun _ => rdDig_wf) h2, wf_nil, wf_nil, wf_nil, z, w.1, w.2.1, w.2.2.1, w.2.2.2⟩, ?_⟩
         have k2 := digsR_bk h2
         have k3 := rfSig_bk h3
         have k1 := bkS_eta a
         simp only [bkSs] at hb
         simp only [bk_sgn] at k3
         simp only [kindM, mz, bk_msg, List.map_nil, List.sum_nil, nil_size]
         omega
   . intro h; simp at h
 . revert h
   unfold rf6
   split
   . rename_i a b
     split
     . intro h; simp at h
     . intro h
       refine ⟨⟨i64_small (n := 6) (by decide), wf_nil, wf_nil, wf_nil, wf_nil, num_range a, z, wf_nil, wf_nil, wf_nil⟩, ?_⟩
       have k1 := bkS_eta b
       simp only [bkSs] at hb
       simp only [kindM, mz, sgn0, bk_msg, List.map_nil, List.sum_nil, nil_size]
       omega
   . intro h; simp at h
 . exact readK_msgP (k := 7) hb h
theorem rngR_back {r : Rng} (h : wf_rng r) (hc : inB r.count = true) : rfRng (spanX r) = (r, true) := by
 obtain ⟨a1, a2, _, a3, a4⟩ := wf_rng_parts h
 have e : rfRng (spanX r) = if rfOk (atomX (dstr r.low)) (atomX (dstr r.high)) (atomX (truB r.listed)) (numX r.count) (atomX (dstr r.print)) (listX (digsX r.ids)) = true then (⟨(rdDig (atomX (dstr r.low))).1, (rdDig (atomX (dstr r.high))).1, decide (truB r.listed = ⟨#[49]⟩), (rdNum (numX r.count)).1, (rdDig (atomX (dstr r.print))).1, (eachR rdDig (digsX r.ids)).1⟩, true) else (rz, false) := rfl
 have hk : rfOk (atomX (dstr r.low)) (atomX (dstr r.high)) (atomX (truB r.listed)) (numX r.count) (atomX (dstr r.print)) (listX (digsX r.ids)) = true := by
  have q1 : eachR rdDig [atomX (dstr r.low), atomX (dstr r.high), atomX (dstr r.print)] = ([r.low, r.high, r.print], true) := digs_back (l := [r.low, r.high, r.print]) fun d hd => by
   simp only [List.mem_cons, List.not_mem_nil, or_false] at hd
   rcases hd with rfl | rfl | rfl <;> assumption
  have q2 : decide ((nmG (numX r.count)).2 = 0) = true := by have := num_back hc; unfold rdNum at this; exact congrArg Prod.snd this
  have e2 : rfOk (atomX (dstr r.low)) (atomX (dstr r.high)) (atomX (truB r.listed)) (numX r.count) (atomX (dstr r.print)) (listX (digsX r.ids)) = ((eachR rdDig [atomX (dstr r.low), atomX (dstr r.high), atomX (dstr r.print)]).2 && (decide ((nmG (numX r.count)).2 = 0) && (true && ((eachR rdDig (digsX r.ids)).2 && (true && (decide (truB r.listed = ⟨#[48]⟩) || decide (truB r.listed = ⟨#[49]⟩))))))) := rfl
  have q3 : (decide (truB r.listed = ⟨#[48]⟩) || decide (truB r.listed = ⟨#[49]⟩)) = true := by cases r.listed <;> decide
  rw [e2, q1, q2, digs_back a4, q3]
  rfl
 rw [e, if_pos hk, dig_back a1, dig_back a2, num_back hc, dig_back a3, digs_back a4]
 have : decide (truB r.listed = ⟨#[49]⟩) = r.listed := by cases r.listed <;> decide
 rw [this]
theorem sigR_back {g : Sgn} (h : wf_sgn g) (hi : inB g.index = true) : rfSig (sigX g) = (g, true) := by
 have e : rfSig (sigX g) = (⟨(rdNum (numX g.index)).1, (eachR rdDig (digsX g.revealed)).1, (eachR rdDig (digsX g.others)).1, (eachR rdDig (digsX g.path)).1⟩,
  (rdNum (numX g.index)).2 && ((eachR rdDig (digsX g.revealed)).2 && ((eachR rdDig (digsX g.others)).2 && ((eachR rdDig (digsX g.path)).2 && (true && (true && true)))))) := rfl
 rw [e, num_back hi, digs_back h.2.1, digs_back h.2.2.1, digs_back h.2.2.2]
 rfl
theorem rfF_back {m : Msg} (hm : wf_msg m) (hk : ¬ (m.kind < 1 ∨ 7 < m.kind)) (hf : foreign m = false) (hn : numbered m = true) : rfF (kindM m.kind) (fieldsX m) = (m, true) := by
 have hf := foreign_of hf
 obtain ⟨_, hI, hR, _, _, hC, hS⟩ := hm
 unfold numbered at hn
 simp only [Bool.and_eq_true, List.all_eq_true] at hn
 obtain ⟨n1, n2, n3⟩ := hn
 have hk' : m.kind = 1 ∨ m.kind = 2 ∨ m.kind = 3 ∨ m.kind = 4 ∨ m.kind = 5 ∨ m.kind = 6 ∨ m.kind = 7 := by omega
 obtain ⟨k, nm, ids, rs, ps, qs, c, t, g⟩ := m
 simp only at *
 rcases hk' with rfl | rfl | rfl | rfl | rfl | rfl | rfl <;>
  simp only [bare, reduceIte, Int.reduceEq, Msg.mk.injEq, true_and, and_true] at hf
 . obtain ⟨rfl, rfl, rfl, rfl, rfl, rfl, rfl⟩ := hf
   show ({ kindM 1 with ranges := (eachR rfRng (rangesX rs)).1 }, (eachR rfRng (rangesX rs)).2) = _
   have : eachR rfRng (rangesX rs) = (rs, true) := each_back fun r hr => rngR_back (hR r hr) (n1 r hr)
   rw [this]; rfl
 . obtain ⟨rfl, rfl, rfl, rfl, rfl, rfl, rfl⟩ := hf
   show ({ kindM 2 with ids := (eachR rdDig (digsX ids)).1 }, (eachR rdDig (digsX ids)).2) = _
   rw [digs_back hI]; rfl
 . obtain ⟨rfl, rfl, rfl, rfl, rfl, rfl, rfl⟩ := hf
   show ({ kindM 3 with patches := (eachR rdText (atomsX ps)).1 }, (eachR rdText (atomsX ps)).2) = _
   rw [texts_back]; rfl
 . obtain ⟨rfl, rfl, rfl, rfl, rfl, rfl, rfl, rfl⟩ := hf
   rfl
 . obtain ⟨rfl, rfl, rfl, rfl, rfl⟩ := hf
   have hS : wf_sgn g := hS
   have e : rfF (kindM 5) [atomX nm, listX (digsX ids), sigX g] = if (eachR rdDig (digsX ids)).2 = false then ({ kindM 5 with name := nm, ids := (eachR rdDig (digsX ids)).1 }, false) else ({ kindM 5 with name := nm, ids := (eachR rdDig (digsX ids)).1, sig := (rfSig (sigX g)).1 }, (rfSig (sigX g)).2) := rfl
   show rfF (kindM 5) [atomX nm, listX (digsX ids), sigX g] = _
   rw [e, digs_back hI, sigR_back hS n2]; rfl
 . obtain ⟨rfl, rfl, rfl, rfl, rfl, rfl⟩ := hf
   have hc : inB c = true := by
    simp only [decide_eq_true_eq, inB] at n3 ⊢
    omega
   show ({ kindM 6 with code := (rdNum (numX c)).1, text := t }, (rdNum (numX c)).2) = _
   rw [num_back hc]; rfl
 . obtain ⟨rfl, rfl, rfl, rfl, rfl, rfl, rfl⟩ := hf
   show ({ kindM 7 with paths := (eachR rdText (atomsX qs)).1 }, (eachR rdText (atomsX qs)).2) = _
   rw [texts_back]; rfl
theorem rfT_eq {s : ByteArray} (hs : s.size <= 70000) : rfT s = decT s := by
 have hk := dcT_bk s
 unfold rfT decT
 by_cases h0 : (dcT s).2 = 0
 case neg => rw [if_neg h0, if_neg h0]
 rw [if_pos h0, if_pos h0]
 obtain ⟨c1, c2⟩ := dcT_canon h0
 have hx0 : dcT s = ((dcT s).1, 0) := Prod.ext rfl h0
 generalize (dcT s).1 = x at hk c1 c2 hx0
 have hc := ckR_of c1
 unfold rfX decX
 split
 case h_2 e1 =>
  split
  . rename_i a l q1 q2; exact absurd q2 (e1 a l q1)
  . rfl
 rename_i a l q1 q2
 rw [q1, q2]
 dsimp only
 obtain ⟨x1, x2⟩ := list_of hc q1
 rw [q2] at x1 x2
 have hb : bkSs l <= 1000000 := by
  rw [bkS_eta, q2] at hk
  simp only [bkSs] at hk; omega
 have hcl : ∀ y ∈ l, ckR y = 0 := fun y hy => x2 y (by simp [hy])
 by_cases ha : a.isList = false
 case neg => rw [if_neg (fun e => ha e.1), if_neg (fun e => ha e.1)]
 have ea := atom_of (x2 a (by simp)) ha
 have key : (a.isList = false /\ kindW a.atom ≠ 0 /\ (rfF (kindM (kindW a.atom)) l).2 = true /\ (chk (rfF (kindM (kindW a.atom)) l).1).2 = 0) -> (readK (kindW a.atom) l = rfF (kindM (kindW a.atom)) l /\ (a.isList = false /\ (readK (kindW a.atom) l).2 = true /\ (chk (readK (kindW a.atom) l).1).2 = 0 /\ (chk (readK (kindW a.atom) l).1).1 = s)) := by
  rintro ⟨_, hk0, h2, h3⟩
  rcases kindW_cases a.atom with e | ⟨hk7, hw⟩
  . exact absurd e hk0
  obtain ⟨f1, f2⟩ := rfF_fwd hk7 hcl h2
  have hm := rfF_msgP hk7 hb h2
  obtain ⟨a1, a2, a3, a4, a5, _⟩ := chk_ok h3
  have hr := readK_back hm.1 a1 a2 a3
  have hr2 := rfF_back hm.1 a1 a2 a3
  rw [f1, f2] at hr hr2
  have ee : readK (kindW a.atom) l = rfF (kindM (kindW a.atom)) l := by rw [hr, hr2]
  refine ⟨ee, ha, by rw [ee]; exact h2, by rw [ee]; exact h3, ?_⟩
  rw [ee, a5]
  have : sexpX (rfF (kindM (kindW a.atom)) l).1 = x := by
   unfold sexpX
   rw [f1, f2, hw, x1, <- ea]
  rw [this]; exact c2
 have key2 : (a.isList = false /\ (readK (kindW a.atom) l).2 = true /\ (chk (readK (kindW a.atom) l).1).2 = 0 /\ (chk (readK (kindW a.atom) l).1).1 = s) -> (a.isList = false /\ kindW a.atom ≠ 0 /\ (rfF (kindM (kindW a.atom)) l).2 = true /\ (chk (rfF (kindM (kindW a.atom)) l).1).2 = 0) := by
  rintro ⟨_, h2, h3, h4⟩
  have hm := readK_msgP hb h2
  obtain ⟨a1, a2, a3, a4, a5, _⟩ := chk_ok h3
  have hd : dcT s = (sexpX (readK (kindW a.atom) l).1, 0) := by rw [<- h4, a5]; exact dcT_enc a4
  rw [hx0] at hd
  have hx := congrArg Prod.fst hd
  dsimp only at hx
  rw [x1] at hx
  have hx := congrArg Sx.list hx
  have hx : a :: l = atomX (wordN (readK (kindW a.atom) l).1.kind) :: fieldsX (readK (kindW a.atom) l).1 := hx
  obtain ⟨e1, e2⟩ := List.cons.inj hx
  have e3 : kindW a.atom = (readK (kindW a.atom) l).1.kind := by
   have ew : a.atom = wordN (readK (kindW a.atom) l).1.kind := congrArg Sx.atom e1
   have := kind_word a1
   rw [<- ew] at this
   exact this
  have hr2 := rfF_back hm.1 a1 a2 a3
  rw [<- e2, <- e3] at hr2
  refine ⟨ha, fun e => ?_, by rw [hr2], by rw [hr2]; exact h3⟩
  rw [<- e3, e] at a1
  exact a1 (Or.inl (by decide))
 by_cases hh : a.isList = false /\ kindW a.atom ≠ 0 /\ (rfF (kindM (kindW a.atom)) l).2 = true /\ (chk (rfF (kindM (kindW a.atom)) l).1).2 = 0
 . obtain ⟨ee, k⟩ := key hh
   rw [if_pos hh, if_pos k, ee]
 . rw [if_neg hh, if_neg fun k => hh (key2 k)]
end Go.Proofs.YtoclmkbjgmgekaaGreatDoor
namespace Go.Proofs.YtoclmkbjgmgekaaGreatDoor
open Go.RowKit
attribute [local irreducible] dfun dround
def H42 : List (Nat × Hint) := [(3, ⟨[((4, []), some .dig)], [(0, .leaf), (4, .oa .dig 0), (5, .leaf)], [.arr .dig], [.sl .sexp, .int .i64, .sl .dig]⟩), (9, ⟨[], [], [], []⟩), (33000009, ⟨[], [], [], []⟩)]
def J42 : List (Nat × Hint) := [(6, ⟨[((4, []), none)], [(0, .leaf), (4, .oa .dig 0), (5, .leaf), (28, .leaf)], [.arr .dig], [.sl .sexp, .int .i64, .bool, .sl .dig]⟩)]
abbrev S42 : List Sh := [.leaf]
abbrev L42 : List Lf := [.sl .sexp]
def F42_J76 (K : Kn) (W72 : prodL [.sl .sexp, .int .i64, .sl .dig] -> Prop) (l_75 : List Sx) (i_75 : Int) (t_75 : Bool) (out_75 : List Dig) : Prop :=
 bif t_75 then (
  K (.tu [.nil, .bool false]) [])
 else (
  At l_75 i_75 fun u77 =>
 StrAt u77.atom 0 fun b78 =>
 0 <= (0 : Int) /\ (0 : Int).toNat < 32 /\
 At l_75 i_75 fun u79 =>
 StrAt u79.atom 1 fun b80 =>
 0 <= (1 : Int) /\ (1 : Int).toNat < 32 /\
 At l_75 i_75 fun u81 =>
 StrAt u81.atom 2 fun b82 =>
 0 <= (2 : Int) /\ (2 : Int).toNat < 32 /\
 At l_75 i_75 fun u83 =>
 StrAt u83.atom 3 fun b84 =>
 0 <= (3 : Int) /\ (3 : Int).toNat < 32 /\
 At l_75 i_75 fun u85 =>
 StrAt u85.atom 4 fun b86 =>
 0 <= (4 : Int) /\ (4 : Int).toNat < 32 /\
 At l_75 i_75 fun u87 =>
 StrAt u87.atom 5 fun b88 =>
 0 <= (5 : Int) /\ (5 : Int).toNat < 32 /\
 At l_75 i_75 fun u89 =>
 StrAt u89.atom 6 fun b90 =>
 0 <= (6 : Int) /\ (6 : Int).toNat < 32 /\
 At l_75 i_75 fun u91 =>
 StrAt u91.atom 7 fun b92 =>
 0 <= (7 : Int) /\ (7 : Int).toNat < 32 /\
 At l_75 i_75 fun u93 =>
 StrAt u93.atom 8 fun b94 =>
 0 <= (8 : Int) /\ (8 : Int).toNat < 32 /\
 At l_75 i_75 fun u95 =>
 StrAt u95.atom 9 fun b96 =>
 0 <= (9 : Int) /\ (9 : Int).toNat < 32 /\
 At l_75 i_75 fun u97 =>
 StrAt u97.atom 10 fun b98 =>
 0 <= (10 : Int) /\ (10 : Int).toNat < 32 /\
 At l_75 i_75 fun u99 =>
 StrAt u99.atom 11 fun b100 =>
 0 <= (11 : Int) /\ (11 : Int).toNat < 32 /\
 At l_75 i_75 fun u101 =>
 StrAt u101.atom 12 fun b102 =>
 0 <= (12 : Int) /\ (12 : Int).toNat < 32 /\
 At l_75 i_75 fun u103 =>
 StrAt u103.atom 13 fun b104 =>
 0 <= (13 : Int) /\ (13 : Int).toNat < 32 /\
 At l_75 i_75 fun u105 =>
 StrAt u105.atom 14 fun b106 =>
 0 <= (14 : Int) /\ (14 : Int).toNat < 32 /\
 At l_75 i_75 fun u107 =>
 StrAt u107.atom 15 fun b108 =>
 0 <= (15 : Int) /\ (15 : Int).toNat < 32 /\
 At l_75 i_75 fun u109 =>
 StrAt u109.atom 16 fun b110 =>
 0 <= (16 : Int) /\ (16 : Int).toNat < 32 /\
 At l_75 i_75 fun u111 =>
 StrAt u111.atom 17 fun b112 =>
 0 <= (17 : Int) /\ (17 : Int).toNat < 32 /\
 At l_75 i_75 fun u113 =>
 StrAt u113.atom 18 fun b114 =>
 0 <= (18 : Int) /\ (18 : Int).toNat < 32 /\
 At l_75 i_75 fun u115 =>
 StrAt u115.atom 19 fun b116 =>
 0 <= (19 : Int) /\ (19 : Int).toNat < 32 /\
 At l_75 i_75 fun u117 =>
 StrAt u117.atom 20 fun b118 =>
 0 <= (20 : Int) /\ (20 : Int).toNat < 32 /\
 At l_75 i_75 fun u119 =>
 StrAt u119.atom 21 fun b120 =>
 0 <= (21 : Int) /\ (21 : Int).toNat < 32 /\
 At l_75 i_75 fun u121 =>
 StrAt u121.atom 22 fun b122 =>
 0 <= (22 : Int) /\ (22 : Int).toNat < 32 /\
 At l_75 i_75 fun u123 =>
 StrAt u123.atom 23 fun b124 =>
 0 <= (23 : Int) /\ (23 : Int).toNat < 32 /\
 At l_75 i_75 fun u125 =>
 StrAt u125.atom 24 fun b126 =>
 0 <= (24 : Int) /\ (24 : Int).toNat < 32 /\
 At l_75 i_75 fun u127 =>
 StrAt u127.atom 25 fun b128 =>
 0 <= (25 : Int) /\ (25 : Int).toNat < 32 /\
 At l_75 i_75 fun u129 =>
 StrAt u129.atom 26 fun b130 =>
 0 <= (26 : Int) /\ (26 : Int).toNat < 32 /\
 At l_75 i_75 fun u131 =>
 StrAt u131.atom 27 fun b132 =>
 0 <= (27 : Int) /\ (27 : Int).toNat < 32 /\
 At l_75 i_75 fun u133 =>
 StrAt u133.atom 28 fun b134 =>
 0 <= (28 : Int) /\ (28 : Int).toNat < 32 /\
 At l_75 i_75 fun u135 =>
 StrAt u135.atom 29 fun b136 =>
 0 <= (29 : Int) /\ (29 : Int).toNat < 32 /\
 At l_75 i_75 fun u137 =>
 StrAt u137.atom 30 fun b138 =>
 0 <= (30 : Int) /\ (30 : Int).toNat < 32 /\
 At l_75 i_75 fun u139 =>
 StrAt u139.atom 31 fun b140 =>
 0 <= (31 : Int) /\ (31 : Int).toNat < 32 /\
 Room (out_75.length + [(⟨b78, b80, b82, b84, b86, b88, b90, b92, b94, b96, b98, b100, b102, b104, b106, b108, b110, b112, b114, b116, b118, b120, b122, b124, b126, b128, b130, b132, b134, b136, b138, b140⟩ : Dig)].length) 32 (
 W72 (l_75, IntKind.i64.wrap (i_75 + 1), out_75 ++ [(⟨b78, b80, b82, b84, b86, b88, b90, b92, b94, b96, b98, b100, b102, b104, b106, b108, b110, b112, b114, b116, b118, b120, b122, b124, b126, b128, b130, b132, b134, b136, b138, b140⟩ : Dig)], ())))
def F42_B72 (K : Kn) (W72 : prodL [.sl .sexp, .int .i64, .sl .dig] -> Prop) (l_71 : List Sx) (i_71 : Int) (out_71 : List Dig) : Prop :=
 bif decide (i_71 < (l_71.length : Int)) then (
  At l_71 i_71 fun u73 =>
 bif u73.isList then (
  F42_J76 K W72 l_71 i_71 true out_71)
 else (
  At l_71 i_71 fun u74 =>
  F42_J76 K W72 l_71 i_71 (!decide ((u74.atom.size : Int) = 32)) out_71))
 else (
  K (.tu [.sl false .dig out_71, .bool true]) [])
def F42_L72 (K : Kn) (g : prodL [.sl .sexp, .int .i64, .sl .dig]) : Prop :=
 LoopW (γ := prodL [.sl .sexp, .int .i64, .sl .dig]) (fun V y => F42_B72 K V y.1 y.2.1 y.2.2.1) g
def F42 (g : prodL L42) (K : Kn) : Prop :=
 F42_L72 K (g.1, 0, [], ())
theorem F42_eq (g : prodL L42) (K X : Kn) : F42 g K = dfun D (gamX [] []) (isRaw []) H42 J42 48 [.tmp 2, .tmp 3] (codeOf Tryz.f42) (argsT S42 L42 g) [] (settle0 K) X := by kernel_rfl
theorem F42_ok (g : prodL L42) (K X : Kn) (h : F42 g K) : FCalls Tryz.prog 42 (argsT S42 L42 g) [] K X :=
 FCalls.settle0 (dfun_sound D_ok (gmX gm0) gamX_det rfl Tryz.func42 (c := codeOf Tryz.f42) rfl Tryz.ntmps42 Tryz.results42 (by unfold enters; rw [Tryz.func42]; kernel_rfl) (Nat.le_of_ble_eq_true (by kernel_rfl)) (c0 := 0) (Eq.mp (F42_eq g K X) h))
def H43 : List (Nat × Hint) := [(3, ⟨[((4, []), some .str)], [(0, .leaf), (4, .oa .str 0), (5, .leaf)], [.arr .str], [.sl .sexp, .int .i64, .sl .str]⟩)]
def J43 : List (Nat × Hint) := []
abbrev S43 : List Sh := [.leaf]
abbrev L43 : List Lf := [.sl .sexp]
def F43_B6 (K : Kn) (W6 : prodL [.sl .sexp, .int .i64, .sl .str] -> Prop) (l_5 : List Sx) (i_5 : Int) (out_5 : List ByteArray) : Prop :=
 bif decide (i_5 < (l_5.length : Int)) then (
  At l_5 i_5 fun u7 =>
 bif u7.isList then (
  K (.tu [.nil, .bool false]) [])
 else (
  At l_5 i_5 fun u8 =>
 Room (out_5.length + [u8.atom].length) 16 (
 W6 (l_5, IntKind.i64.wrap (i_5 + 1), out_5 ++ [u8.atom], ()))))
 else (
  K (.tu [.sl false .str out_5, .bool true]) [])
def F43_L6 (K : Kn) (g : prodL [.sl .sexp, .int .i64, .sl .str]) : Prop :=
 LoopW (γ := prodL [.sl .sexp, .int .i64, .sl .str]) (fun V y => F43_B6 K V y.1 y.2.1 y.2.2.1) g
def F43 (g : prodL L43) (K : Kn) : Prop :=
 F43_L6 K (g.1, 0, [], ())
theorem F43_eq (g : prodL L43) (K X : Kn) : F43 g K = dfun D (gamX [] []) (isRaw []) H43 J43 27 [.tmp 2, .tmp 3] (codeOf Tryz.f43) (argsT S43 L43 g) [] (settle0 K) X := by kernel_rfl
theorem F43_ok (g : prodL L43) (K X : Kn) (h : F43 g K) : FCalls Tryz.prog 43 (argsT S43 L43 g) [] K X :=
 FCalls.settle0 (dfun_sound D_ok (gmX gm0) gamX_det rfl Tryz.func43 (c := codeOf Tryz.f43) rfl Tryz.ntmps43 Tryz.results43 (by unfold enters; rw [Tryz.func43]; kernel_rfl) (Nat.le_of_ble_eq_true (by kernel_rfl)) (c0 := 0) (Eq.mp (F43_eq g K X) h))
end Go.Proofs.YtoclmkbjgmgekaaGreatDoor
namespace Go.Proofs.YtoclmkbjgmgekaaGreatDoor
open Go.RowKit
theorem StrAt_cpy {s : ByteArray} {i : Int} {n : Nat} {K : Int -> Prop} (e : i = (n : Int)) (h : n < s.size) (hK : K (cpyB s n 0)) : StrAt s i K := by
 subst e
 refine ⟨by omega, ?_⟩
 have e : s[n]? = some (s.data[n]'h) := getElem?_pos s n h
 refine ⟨s.data[n]'h, by rw [Int.toNat_natCast]; exact e, ?_⟩
 unfold cpyB at hK
 rw [e] at hK
 exact hK
theorem nmN_eq (x : Sx) : nmN x = nmG x := by
 unfold nmN nmG
 rw [check_eq]
theorem F42_is {l : List Sx} {K : Kn} (hl : bkSs l <= lim) (h : K (.tu [.sl false .dig (eachR rdDig l).1, .bool (eachR rdDig l).2]) []) : F42 (l, ()) (wkK K) := by
 have hlen := bkSs_len l
 unfold lim at hl
 unfold F42 F42_L72
 refine LoopW.each rdDig l (fun n out => (l, n, out, ())) (fun r => K (.tu [.sl false .dig r.1, .bool r.2]) []) (by omega) rfl h (fun W n hn out ho ht hf => ?_) fun h W => ?_
 . show F42_B72 (wkK K) W l n out
   unfold F42_B72
   rw [lt_true hn, cond_true]
   refine At_of hn ?_
   cases c : l[n].isList with
   | true =>
    have e : rdDig l[n] = (dz, false) := by unfold rdDig; rw [if_pos (Or.inl c)]
    rw [cond_true]
    unfold F42_J76
    rw [cond_true]
    exact wkK_nilE .dig (hf (by rw [e]))
   | false =>
    rw [cond_false]
    refine At_of hn ?_
    by_cases hs : l[n].atom.size = 32
    . have e : rdDig l[n] = (digA l[n], true) := by unfold rdDig; rw [if_neg (by simp [c, hs])]
      have ht := ht (by rw [e])
      rw [e] at ht
      rw [show decide ((l[n].atom.size : Int) = 32) = true from decide_eq_true (by omega)]
      unfold F42_J76
      rw [Bool.not_true, cond_false]
      refine At_of hn (StrAt_cpy (s := l[n].atom) (i := 0) (n := 0) rfl (by omega) ⟨by decide, by decide, ?_⟩)
      refine At_of hn (StrAt_cpy (s := l[n].atom) (i := 1) (n := 1) rfl (by omega) ⟨by decide, by decide, ?_⟩)
      refine At_of hn (StrAt_cpy (s := l[n].atom) (i := 2) (n := 2) rfl (by omega) ⟨by decide, by decide, ?_⟩)
      refine At_of hn (StrAt_cpy (s := l[n].atom) (i := 3) (n := 3) rfl (by omega) ⟨by decide, by decide, ?_⟩)
      refine At_of hn (StrAt_cpy (s := l[n].atom) (i := 4) (n := 4) rfl (by omega) ⟨by decide, by decide, ?_⟩)
      refine At_of hn (StrAt_cpy (s := l[n].atom) (i := 5) (n := 5) rfl (by omega) ⟨by decide, by decide, ?_⟩)
      refine At_of hn (StrAt_cpy (s := l[n].atom) (i := 6) (n := 6) rfl (by omega) ⟨by decide, by decide, ?_⟩)
      refine At_of hn (StrAt_cpy (s := l[n].atom) (i := 7) (n := 7) rfl (by omega) ⟨by decide, by decide, ?_⟩)
      refine At_of hn (StrAt_cpy (s := l[n].atom) (i := 8) (n := 8) rfl (by omega) ⟨by decide, by decide, ?_⟩)
      refine At_of hn (StrAt_cpy (s := l[n].atom) (i := 9) (n := 9) rfl (by omega) ⟨by decide, by decide, ?_⟩)
      refine At_of hn (StrAt_cpy (s := l[n].atom) (i := 10) (n := 10) rfl (by omega) ⟨by decide, by decide, ?_⟩)
      refine At_of hn (StrAt_cpy (s := l[n].atom) (i := 11) (n := 11) rfl (by omega) ⟨by decide, by decide, ?_⟩)
      refine At_of hn (StrAt_cpy (s := l[n].atom) (i := 12) (n := 12) rfl (by omega) ⟨by decide, by decide, ?_⟩)
      refine At_of hn (StrAt_cpy (s := l[n].atom) (i := 13) (n := 13) rfl (by omega) ⟨by decide, by decide, ?_⟩)
      refine At_of hn (StrAt_cpy (s := l[n].atom) (i := 14) (n := 14) rfl (by omega) ⟨by decide, by decide, ?_⟩)
      refine At_of hn (StrAt_cpy (s := l[n].atom) (i := 15) (n := 15) rfl (by omega) ⟨by decide, by decide, ?_⟩)
      refine At_of hn (StrAt_cpy (s := l[n].atom) (i := 16) (n := 16) rfl (by omega) ⟨by decide, by decide, ?_⟩)
      refine At_of hn (StrAt_cpy (s := l[n].atom) (i := 17) (n := 17) rfl (by omega) ⟨by decide, by decide, ?_⟩)
      refine At_of hn (StrAt_cpy (s := l[n].atom) (i := 18) (n := 18) rfl (by omega) ⟨by decide, by decide, ?_⟩)
      refine At_of hn (StrAt_cpy (s := l[n].atom) (i := 19) (n := 19) rfl (by omega) ⟨by decide, by decide, ?_⟩)
      refine At_of hn (StrAt_cpy (s := l[n].atom) (i := 20) (n := 20) rfl (by omega) ⟨by decide, by decide, ?_⟩)
      refine At_of hn (StrAt_cpy (s := l[n].atom) (i := 21) (n := 21) rfl (by omega) ⟨by decide, by decide, ?_⟩)
      refine At_of hn (StrAt_cpy (s := l[n].atom) (i := 22) (n := 22) rfl (by omega) ⟨by decide, by decide, ?_⟩)
      refine At_of hn (StrAt_cpy (s := l[n].atom) (i := 23) (n := 23) rfl (by omega) ⟨by decide, by decide, ?_⟩)
      refine At_of hn (StrAt_cpy (s := l[n].atom) (i := 24) (n := 24) rfl (by omega) ⟨by decide, by decide, ?_⟩)
      refine At_of hn (StrAt_cpy (s := l[n].atom) (i := 25) (n := 25) rfl (by omega) ⟨by decide, by decide, ?_⟩)
      refine At_of hn (StrAt_cpy (s := l[n].atom) (i := 26) (n := 26) rfl (by omega) ⟨by decide, by decide, ?_⟩)
      refine At_of hn (StrAt_cpy (s := l[n].atom) (i := 27) (n := 27) rfl (by omega) ⟨by decide, by decide, ?_⟩)
      refine At_of hn (StrAt_cpy (s := l[n].atom) (i := 28) (n := 28) rfl (by omega) ⟨by decide, by decide, ?_⟩)
      refine At_of hn (StrAt_cpy (s := l[n].atom) (i := 29) (n := 29) rfl (by omega) ⟨by decide, by decide, ?_⟩)
      refine At_of hn (StrAt_cpy (s := l[n].atom) (i := 30) (n := 30) rfl (by omega) ⟨by decide, by decide, ?_⟩)
      refine At_of hn (StrAt_cpy (s := l[n].atom) (i := 31) (n := 31) rfl (by omega) ⟨by decide, by decide, ?_⟩)
      exact ⟨by simp only [List.length_singleton, ho]; omega, ht⟩
    . have e : rdDig l[n] = (dz, false) := by unfold rdDig; rw [if_pos (Or.inr hs)]
      rw [show decide ((l[n].atom.size : Int) = 32) = false from decide_eq_false (by omega)]
      unfold F42_J76
      rw [Bool.not_false, cond_true]
      exact wkK_nilE .dig (hf (by rw [e]))
 . show F42_B72 (wkK K) W l (l.length : Int) (l.map fun x => (rdDig x).1)
   unfold F42_B72
   rw [lt_false, cond_false]
   exact wkK.same h
def sp42 : Sp := ⟨S42, L42, fun g => bkSs g.1 <= lim, fun g => .tu [.sl false .dig (eachR rdDig g.1).1, .bool (eachR rdDig g.1).2], fun _ => none⟩
theorem sp42_ok : sp42.Ok Tryz.prog 42 false :=
 ⟨fun g K X hp h => FCalls.weak (F42_ok g (wkK K) X (F42_is hp h)), fun _ _ _ => rfl, fun _ => rfl, fun h => (by cases h)⟩
theorem F43_is {l : List Sx} {K : Kn} (hl : bkSs l <= lim) (h : K (.tu [.sl false .str (eachR rdText l).1, .bool (eachR rdText l).2]) []) : F43 (l, ()) (wkK K) := by
 have hlen := bkSs_len l
 unfold lim at hl
 unfold F43 F43_L6
 refine LoopW.each rdText l (fun n out => (l, n, out, ())) (fun r => K (.tu [.sl false .str r.1, .bool r.2]) []) (by omega) rfl h (fun W n hn out ho ht hf => ?_) fun h W => ?_
 . show F43_B6 (wkK K) W l n out
   unfold F43_B6
   rw [lt_true hn, cond_true]
   refine At_of hn ?_
   cases c : l[n].isList with
   | true => exact wkK_nilE .str (hf (by simp [rdText, c]))
   | false =>
    rw [cond_false]
    exact At_of hn ⟨by simp only [List.length_singleton, ho]; omega, ht (by simp [rdText, c])⟩
 . show F43_B6 (wkK K) W l (l.length : Int) (l.map fun x => (rdText x).1)
   unfold F43_B6
   rw [lt_false, cond_false]
   exact wkK.same h
def sp43 : Sp := ⟨S43, L43, fun g => bkSs g.1 <= lim, fun g => .tu [.sl false .str (eachR rdText g.1).1, .bool (eachR rdText g.1).2], fun _ => none⟩
theorem sp43_ok : sp43.Ok Tryz.prog 43 false :=
 ⟨fun g K X hp h => FCalls.weak (F43_ok g (wkK K) X (F43_is hp h)), fun _ _ _ => rfl, fun _ => rfl, fun h => (by cases h)⟩
end Go.Proofs.YtoclmkbjgmgekaaGreatDoor
namespace Go.Proofs.YtoclmkbjgmgekaaGreatDoor
open Go.RowKit
attribute [local irreducible] dfun dround
def H57 : List (Nat × Hint) := []
def J57 : List (Nat × Hint) := [(2, ⟨[((1, []), none), ((2, []), none)], [(1, .pt 0 0), (2, .pt 1 0), (19, .leaf)], [.cells [.leaf, .leaf, .leaf], .cells [.leaf, .leaf, .leaf, .leaf, .leaf, .leaf, .leaf, .leaf, .leaf, .leaf, .leaf, .leaf, .leaf, .leaf, .leaf, .leaf, .leaf, .leaf, .leaf, .leaf, .leaf, .leaf, .leaf, .leaf, .leaf, .leaf, .leaf, .leaf, .leaf, .leaf, .leaf, .leaf, .leaf, .leaf, .leaf, .leaf, .leaf, .leaf, .leaf, .leaf, .leaf, .leaf, .leaf, .leaf, .leaf, .leaf, .leaf, .leaf, .leaf, .leaf, .leaf, .leaf, .leaf, .leaf, .leaf, .leaf, .leaf, .leaf, .leaf, .leaf, .leaf, .leaf, .leaf, .leaf, .leaf, .leaf, .leaf, .leaf, .leaf, .leaf, .leaf, .leaf, .leaf, .leaf, .leaf, .leaf, .leaf, .leaf, .leaf, .leaf, .leaf, .leaf, .leaf, .leaf, .leaf, .leaf, .leaf, .leaf, .leaf, .leaf, .leaf, .leaf, .leaf, .leaf, .leaf, .leaf, .leaf, .leaf, .nil]], [.bool, .bool, .str, .sl .sexp, .int .u8, .int .u8, .int .u8, .int .u8, .int .u8, .int .u8, .int .u8, .int .u8, .int .u8, .int .u8, .int .u8, .int .u8, .int .u8, .int .u8, .int .u8, .int .u8, .int .u8, .int .u8, .int .u8, .int .u8, .int .u8, .int .u8, .int .u8, .int .u8, .int .u8, .int .u8, .int .u8, .int .u8, .int .u8, .int .u8, .int .u8, .int .u8, .int .u8, .int .u8, .int .u8, .int .u8, .int .u8, .int .u8, .int .u8, .int .u8, .int .u8, .int .u8, .int .u8, .int .u8, .int .u8, .int .u8, .int .u8, .int .u8, .int .u8, .int .u8, .int .u8, .int .u8, .int .u8, .int .u8, .int .u8, .int .u8, .int .u8, .int .u8, .int .u8, .int .u8, .int .u8, .int .u8, .int .u8, .int .u8, .bool, .int .i64, .int .u8, .int .u8, .int .u8, .int .u8, .int .u8, .int .u8, .int .u8, .int .u8, .int .u8, .int .u8, .int .u8, .int .u8, .int .u8, .int .u8, .int .u8, .int .u8, .int .u8, .int .u8, .int .u8, .int .u8, .int .u8, .int .u8, .int .u8, .int .u8, .int .u8, .int .u8, .int .u8, .int .u8, .int .u8, .int .u8, .int .u8, .int .u8]⟩), (8, ⟨[((2, []), none)], [(2, .pt 0 0), (4, .leaf), (5, .leaf), (7, .leaf), (9, .leaf), (88, .leaf)], [.cells [.leaf, .leaf, .leaf, .leaf, .leaf, .leaf, .leaf, .leaf, .leaf, .leaf, .leaf, .leaf, .leaf, .leaf, .leaf, .leaf, .leaf, .leaf, .leaf, .leaf, .leaf, .leaf, .leaf, .leaf, .leaf, .leaf, .leaf, .leaf, .leaf, .leaf, .leaf, .leaf, .leaf, .leaf, .leaf, .leaf, .leaf, .leaf, .leaf, .leaf, .leaf, .leaf, .leaf, .leaf, .leaf, .leaf, .leaf, .leaf, .leaf, .leaf, .leaf, .leaf, .leaf, .leaf, .leaf, .leaf, .leaf, .leaf, .leaf, .leaf, .leaf, .leaf, .leaf, .leaf, .leaf, .leaf, .leaf, .leaf, .leaf, .leaf, .leaf, .leaf, .leaf, .leaf, .leaf, .leaf, .leaf, .leaf, .leaf, .leaf, .leaf, .leaf, .leaf, .leaf, .leaf, .leaf, .leaf, .leaf, .leaf, .leaf, .leaf, .leaf, .leaf, .leaf, .leaf, .leaf, .leaf, .leaf, .nil]], [.sl .sexp, .sl .dig, .int .i64, .sl .dig, .bool, .int .u8, .int .u8, .int .u8, .int .u8, .int .u8, .int .u8, .int .u8, .int .u8, .int .u8, .int .u8, .int .u8, .int .u8, .int .u8, .int .u8, .int .u8, .int .u8, .int .u8, .int .u8, .int .u8, .int .u8, .int .u8, .int .u8, .int .u8, .int .u8, .int .u8, .int .u8, .int .u8, .int .u8, .int .u8, .int .u8, .int .u8, .int .u8, .int .u8, .int .u8, .int .u8, .int .u8, .int .u8, .int .u8, .int .u8, .int .u8, .int .u8, .int .u8, .int .u8, .int .u8, .int .u8, .int .u8, .int .u8, .int .u8, .int .u8, .int .u8, .int .u8, .int .u8, .int .u8, .int .u8, .int .u8, .int .u8, .int .u8, .int .u8, .int .u8, .int .u8, .int .u8, .int .u8, .int .u8, .int .u8, .bool, .int .i64, .int .u8, .int .u8, .int .u8, .int .u8, .int .u8, .int .u8, .int .u8, .int .u8, .int .u8, .int .u8, .int .u8, .int .u8, .int .u8, .int .u8, .int .u8, .int .u8, .int .u8, .int .u8, .int .u8, .int .u8, .int .u8, .int .u8, .int .u8, .int .u8, .int .u8, .int .u8, .int .u8, .int .u8, .int .u8, .int .u8, .int .u8, .int .u8]⟩)]
abbrev S57 : List Sh := [.ag [.leaf, .leaf, .leaf]]
abbrev L57 : List Lf := [.bool, .str, .sl .sexp]
def F57_J13 (K : Kn) (l_12 : List Sx) (ends_12 : List Dig) (n_12 : Int) (ids_12 : List Dig) (t_12 : Bool) (t1_12 t2_12 t3_12 t4_12 t5_12 t6_12 t7_12 t8_12 t9_12 t10_12 t11_12 t12_12 t13_12 t14_12 t15_12 t16_12 t17_12 t18_12 t19_12 t20_12 t21_12 t22_12 t23_12 t24_12 t25_12 t26_12 t27_12 t28_12 t29_12 t30_12 t31_12 t32_12 t33_12 t34_12 t35_12 t36_12 t37_12 t38_12 t39_12 t40_12 t41_12 t42_12 t43_12 t44_12 t45_12 t46_12 t47_12 t48_12 t49_12 t50_12 t51_12 t52_12 t53_12 t54_12 t55_12 t56_12 t57_12 t58_12 t59_12 t60_12 t61_12 t62_12 t63_12 t64_12 : Int) (t65_12 : Bool) (t66_12 t67_12 t68_12 t69_12 t70_12 t71_12 t72_12 t73_12 t74_12 t75_12 t76_12 t77_12 t78_12 t79_12 t80_12 t81_12 t82_12 t83_12 t84_12 t85_12 t86_12 t87_12 t88_12 t89_12 t90_12 t91_12 t92_12 t93_12 t94_12 t95_12 t96_12 t97_12 t98_12 : Int) : Prop :=
 bif t_12 then (
  K (.tu [.ag (dgl dg0 (dgl dg0 [.bool false, .int .i64 0, .int .u8 0, .int .u8 0, .int .u8 0, .int .u8 0, .int .u8 0, .int .u8 0, .int .u8 0, .int .u8 0, .int .u8 0, .int .u8 0, .int .u8 0, .int .u8 0, .int .u8 0, .int .u8 0, .int .u8 0, .int .u8 0, .int .u8 0, .int .u8 0, .int .u8 0, .int .u8 0, .int .u8 0, .int .u8 0, .int .u8 0, .int .u8 0, .int .u8 0, .int .u8 0, .int .u8 0, .int .u8 0, .int .u8 0, .int .u8 0, .int .u8 0, .int .u8 0, .nil])), .bool false]) [])
 else (
  At ends_12 0 fun u14 =>
 At ends_12 1 fun u15 =>
 At l_12 2 fun u16 =>
 At ends_12 2 fun u17 =>
 K (.tu [.ag [.int .u8 u14.b0, .int .u8 u14.b1, .int .u8 u14.b2, .int .u8 u14.b3, .int .u8 u14.b4, .int .u8 u14.b5, .int .u8 u14.b6, .int .u8 u14.b7, .int .u8 u14.b8, .int .u8 u14.b9, .int .u8 u14.b10, .int .u8 u14.b11, .int .u8 u14.b12, .int .u8 u14.b13, .int .u8 u14.b14, .int .u8 u14.b15, .int .u8 u14.b16, .int .u8 u14.b17, .int .u8 u14.b18, .int .u8 u14.b19, .int .u8 u14.b20, .int .u8 u14.b21, .int .u8 u14.b22, .int .u8 u14.b23, .int .u8 u14.b24, .int .u8 u14.b25, .int .u8 u14.b26, .int .u8 u14.b27, .int .u8 u14.b28, .int .u8 u14.b29, .int .u8 u14.b30, .int .u8 u14.b31, .int .u8 u15.b0, .int .u8 u15.b1, .int .u8 u15.b2, .int .u8 u15.b3, .int .u8 u15.b4, .int .u8 u15.b5, .int .u8 u15.b6, .int .u8 u15.b7, .int .u8 u15.b8, .int .u8 u15.b9, .int .u8 u15.b10, .int .u8 u15.b11, .int .u8 u15.b12, .int .u8 u15.b13, .int .u8 u15.b14, .int .u8 u15.b15, .int .u8 u15.b16, .int .u8 u15.b17, .int .u8 u15.b18, .int .u8 u15.b19, .int .u8 u15.b20, .int .u8 u15.b21, .int .u8 u15.b22, .int .u8 u15.b23, .int .u8 u15.b24, .int .u8 u15.b25, .int .u8 u15.b26, .int .u8 u15.b27, .int .u8 u15.b28, .int .u8 u15.b29, .int .u8 u15.b30, .int .u8 u15.b31, .bool (decide (u16.atom = (⟨#[49]⟩ : ByteArray))), .int .i64 n_12, .int .u8 u17.b0, .int .u8 u17.b1, .int .u8 u17.b2, .int .u8 u17.b3, .int .u8 u17.b4, .int .u8 u17.b5, .int .u8 u17.b6, .int .u8 u17.b7, .int .u8 u17.b8, .int .u8 u17.b9, .int .u8 u17.b10, .int .u8 u17.b11, .int .u8 u17.b12, .int .u8 u17.b13, .int .u8 u17.b14, .int .u8 u17.b15, .int .u8 u17.b16, .int .u8 u17.b17, .int .u8 u17.b18, .int .u8 u17.b19, .int .u8 u17.b20, .int .u8 u17.b21, .int .u8 u17.b22, .int .u8 u17.b23, .int .u8 u17.b24, .int .u8 u17.b25, .int .u8 u17.b26, .int .u8 u17.b27, .int .u8 u17.b28, .int .u8 u17.b29, .int .u8 u17.b30, .int .u8 u17.b31, .sl false .dig ids_12], .bool true]) [])
def F57_J2 (K : Kn) (t_1 x1_1 : Bool) (x2_1 : ByteArray) (x3_1 : List Sx) (t1_1 t2_1 t3_1 t4_1 t5_1 t6_1 t7_1 t8_1 t9_1 t10_1 t11_1 t12_1 t13_1 t14_1 t15_1 t16_1 t17_1 t18_1 t19_1 t20_1 t21_1 t22_1 t23_1 t24_1 t25_1 t26_1 t27_1 t28_1 t29_1 t30_1 t31_1 t32_1 t33_1 t34_1 t35_1 t36_1 t37_1 t38_1 t39_1 t40_1 t41_1 t42_1 t43_1 t44_1 t45_1 t46_1 t47_1 t48_1 t49_1 t50_1 t51_1 t52_1 t53_1 t54_1 t55_1 t56_1 t57_1 t58_1 t59_1 t60_1 t61_1 t62_1 t63_1 t64_1 : Int) (t65_1 : Bool) (t66_1 t67_1 t68_1 t69_1 t70_1 t71_1 t72_1 t73_1 t74_1 t75_1 t76_1 t77_1 t78_1 t79_1 t80_1 t81_1 t82_1 t83_1 t84_1 t85_1 t86_1 t87_1 t88_1 t89_1 t90_1 t91_1 t92_1 t93_1 t94_1 t95_1 t96_1 t97_1 t98_1 : Int) : Prop :=
 bif t_1 then (
  K (.tu [.ag (dgl dg0 (dgl dg0 [.bool false, .int .i64 0, .int .u8 0, .int .u8 0, .int .u8 0, .int .u8 0, .int .u8 0, .int .u8 0, .int .u8 0, .int .u8 0, .int .u8 0, .int .u8 0, .int .u8 0, .int .u8 0, .int .u8 0, .int .u8 0, .int .u8 0, .int .u8 0, .int .u8 0, .int .u8 0, .int .u8 0, .int .u8 0, .int .u8 0, .int .u8 0, .int .u8 0, .int .u8 0, .int .u8 0, .int .u8 0, .int .u8 0, .int .u8 0, .int .u8 0, .int .u8 0, .int .u8 0, .int .u8 0, .nil])), .bool false]) [])
 else (
  At x3_1 0 fun u3 =>
 At x3_1 1 fun u4 =>
 At x3_1 4 fun u5 =>
 sp42.pre ([(⟨u3.isList, u3.atom, u3.list⟩ : Sx), (⟨u4.isList, u4.atom, u4.list⟩ : Sx), (⟨u5.isList, u5.atom, u5.list⟩ : Sx)], ()) /\
 At x3_1 3 fun u6 =>
 sp45.pre (u6.isList, u6.atom, u6.list, ()) /\
 At x3_1 5 fun u7 =>
 sp42.pre (u7.list, ()) /\
 bif !((eachR rdDig [(⟨u3.isList, u3.atom, u3.list⟩ : Sx), (⟨u4.isList, u4.atom, u4.list⟩ : Sx), (⟨u5.isList, u5.atom, u5.list⟩ : Sx)]).2) then (
  F57_J13 K x3_1 ((eachR rdDig [(⟨u3.isList, u3.atom, u3.list⟩ : Sx), (⟨u4.isList, u4.atom, u4.list⟩ : Sx), (⟨u5.isList, u5.atom, u5.list⟩ : Sx)]).1) ((nmN ⟨u6.isList, u6.atom, u6.list⟩).1) ((eachR rdDig u7.list).1) true t1_1 t2_1 t3_1 t4_1 t5_1 t6_1 t7_1 t8_1 t9_1 t10_1 t11_1 t12_1 t13_1 t14_1 t15_1 t16_1 t17_1 t18_1 t19_1 t20_1 t21_1 t22_1 t23_1 t24_1 t25_1 t26_1 t27_1 t28_1 t29_1 t30_1 t31_1 t32_1 t33_1 t34_1 t35_1 t36_1 t37_1 t38_1 t39_1 t40_1 t41_1 t42_1 t43_1 t44_1 t45_1 t46_1 t47_1 t48_1 t49_1 t50_1 t51_1 t52_1 t53_1 t54_1 t55_1 t56_1 t57_1 t58_1 t59_1 t60_1 t61_1 t62_1 t63_1 t64_1 t65_1 t66_1 t67_1 t68_1 t69_1 t70_1 t71_1 t72_1 t73_1 t74_1 t75_1 t76_1 t77_1 t78_1 t79_1 t80_1 t81_1 t82_1 t83_1 t84_1 t85_1 t86_1 t87_1 t88_1 t89_1 t90_1 t91_1 t92_1 t93_1 t94_1 t95_1 t96_1 t97_1 t98_1)
 else (
  bif !decide ((nmN ⟨u6.isList, u6.atom, u6.list⟩).2 = 0) then (
   F57_J13 K x3_1 ((eachR rdDig [(⟨u3.isList, u3.atom, u3.list⟩ : Sx), (⟨u4.isList, u4.atom, u4.list⟩ : Sx), (⟨u5.isList, u5.atom, u5.list⟩ : Sx)]).1) ((nmN ⟨u6.isList, u6.atom, u6.list⟩).1) ((eachR rdDig u7.list).1) true t1_1 t2_1 t3_1 t4_1 t5_1 t6_1 t7_1 t8_1 t9_1 t10_1 t11_1 t12_1 t13_1 t14_1 t15_1 t16_1 t17_1 t18_1 t19_1 t20_1 t21_1 t22_1 t23_1 t24_1 t25_1 t26_1 t27_1 t28_1 t29_1 t30_1 t31_1 t32_1 t33_1 t34_1 t35_1 t36_1 t37_1 t38_1 t39_1 t40_1 t41_1 t42_1 t43_1 t44_1 t45_1 t46_1 t47_1 t48_1 t49_1 t50_1 t51_1 t52_1 t53_1 t54_1 t55_1 t56_1 t57_1 t58_1 t59_1 t60_1 t61_1 t62_1 t63_1 t64_1 t65_1 t66_1 t67_1 t68_1 t69_1 t70_1 t71_1 t72_1 t73_1 t74_1 t75_1 t76_1 t77_1 t78_1 t79_1 t80_1 t81_1 t82_1 t83_1 t84_1 t85_1 t86_1 t87_1 t88_1 t89_1 t90_1 t91_1 t92_1 t93_1 t94_1 t95_1 t96_1 t97_1 t98_1)
  else (
   At x3_1 5 fun u8 =>
   bif !u8.isList then (
    F57_J13 K x3_1 ((eachR rdDig [(⟨u3.isList, u3.atom, u3.list⟩ : Sx), (⟨u4.isList, u4.atom, u4.list⟩ : Sx), (⟨u5.isList, u5.atom, u5.list⟩ : Sx)]).1) ((nmN ⟨u6.isList, u6.atom, u6.list⟩).1) ((eachR rdDig u7.list).1) true t1_1 t2_1 t3_1 t4_1 t5_1 t6_1 t7_1 t8_1 t9_1 t10_1 t11_1 t12_1 t13_1 t14_1 t15_1 t16_1 t17_1 t18_1 t19_1 t20_1 t21_1 t22_1 t23_1 t24_1 t25_1 t26_1 t27_1 t28_1 t29_1 t30_1 t31_1 t32_1 t33_1 t34_1 t35_1 t36_1 t37_1 t38_1 t39_1 t40_1 t41_1 t42_1 t43_1 t44_1 t45_1 t46_1 t47_1 t48_1 t49_1 t50_1 t51_1 t52_1 t53_1 t54_1 t55_1 t56_1 t57_1 t58_1 t59_1 t60_1 t61_1 t62_1 t63_1 t64_1 t65_1 t66_1 t67_1 t68_1 t69_1 t70_1 t71_1 t72_1 t73_1 t74_1 t75_1 t76_1 t77_1 t78_1 t79_1 t80_1 t81_1 t82_1 t83_1 t84_1 t85_1 t86_1 t87_1 t88_1 t89_1 t90_1 t91_1 t92_1 t93_1 t94_1 t95_1 t96_1 t97_1 t98_1)
   else (
    bif !((eachR rdDig u7.list).2) then (
     F57_J13 K x3_1 ((eachR rdDig [(⟨u3.isList, u3.atom, u3.list⟩ : Sx), (⟨u4.isList, u4.atom, u4.list⟩ : Sx), (⟨u5.isList, u5.atom, u5.list⟩ : Sx)]).1) ((nmN ⟨u6.isList, u6.atom, u6.list⟩).1) ((eachR rdDig u7.list).1) true t1_1 t2_1 t3_1 t4_1 t5_1 t6_1 t7_1 t8_1 t9_1 t10_1 t11_1 t12_1 t13_1 t14_1 t15_1 t16_1 t17_1 t18_1 t19_1 t20_1 t21_1 t22_1 t23_1 t24_1 t25_1 t26_1 t27_1 t28_1 t29_1 t30_1 t31_1 t32_1 t33_1 t34_1 t35_1 t36_1 t37_1 t38_1 t39_1 t40_1 t41_1 t42_1 t43_1 t44_1 t45_1 t46_1 t47_1 t48_1 t49_1 t50_1 t51_1 t52_1 t53_1 t54_1 t55_1 t56_1 t57_1 t58_1 t59_1 t60_1 t61_1 t62_1 t63_1 t64_1 t65_1 t66_1 t67_1 t68_1 t69_1 t70_1 t71_1 t72_1 t73_1 t74_1 t75_1 t76_1 t77_1 t78_1 t79_1 t80_1 t81_1 t82_1 t83_1 t84_1 t85_1 t86_1 t87_1 t88_1 t89_1 t90_1 t91_1 t92_1 t93_1 t94_1 t95_1 t96_1 t97_1 t98_1)
    else (
     At x3_1 2 fun u9 =>
     bif u9.isList then (
      F57_J13 K x3_1 ((eachR rdDig [(⟨u3.isList, u3.atom, u3.list⟩ : Sx), (⟨u4.isList, u4.atom, u4.list⟩ : Sx), (⟨u5.isList, u5.atom, u5.list⟩ : Sx)]).1) ((nmN ⟨u6.isList, u6.atom, u6.list⟩).1) ((eachR rdDig u7.list).1) true t1_1 t2_1 t3_1 t4_1 t5_1 t6_1 t7_1 t8_1 t9_1 t10_1 t11_1 t12_1 t13_1 t14_1 t15_1 t16_1 t17_1 t18_1 t19_1 t20_1 t21_1 t22_1 t23_1 t24_1 t25_1 t26_1 t27_1 t28_1 t29_1 t30_1 t31_1 t32_1 t33_1 t34_1 t35_1 t36_1 t37_1 t38_1 t39_1 t40_1 t41_1 t42_1 t43_1 t44_1 t45_1 t46_1 t47_1 t48_1 t49_1 t50_1 t51_1 t52_1 t53_1 t54_1 t55_1 t56_1 t57_1 t58_1 t59_1 t60_1 t61_1 t62_1 t63_1 t64_1 t65_1 t66_1 t67_1 t68_1 t69_1 t70_1 t71_1 t72_1 t73_1 t74_1 t75_1 t76_1 t77_1 t78_1 t79_1 t80_1 t81_1 t82_1 t83_1 t84_1 t85_1 t86_1 t87_1 t88_1 t89_1 t90_1 t91_1 t92_1 t93_1 t94_1 t95_1 t96_1 t97_1 t98_1)
     else (
      At x3_1 2 fun u10 =>
      bif !decide (u10.atom = (⟨#[48]⟩ : ByteArray)) then (
       At x3_1 2 fun u11 =>
       F57_J13 K x3_1 ((eachR rdDig [(⟨u3.isList, u3.atom, u3.list⟩ : Sx), (⟨u4.isList, u4.atom, u4.list⟩ : Sx), (⟨u5.isList, u5.atom, u5.list⟩ : Sx)]).1) ((nmN ⟨u6.isList, u6.atom, u6.list⟩).1) ((eachR rdDig u7.list).1) (!decide (u11.atom = (⟨#[49]⟩ : ByteArray))) t1_1 t2_1 t3_1 t4_1 t5_1 t6_1 t7_1 t8_1 t9_1 t10_1 t11_1 t12_1 t13_1 t14_1 t15_1 t16_1 t17_1 t18_1 t19_1 t20_1 t21_1 t22_1 t23_1 t24_1 t25_1 t26_1 t27_1 t28_1 t29_1 t30_1 t31_1 t32_1 t33_1 t34_1 t35_1 t36_1 t37_1 t38_1 t39_1 t40_1 t41_1 t42_1 t43_1 t44_1 t45_1 t46_1 t47_1 t48_1 t49_1 t50_1 t51_1 t52_1 t53_1 t54_1 t55_1 t56_1 t57_1 t58_1 t59_1 t60_1 t61_1 t62_1 t63_1 t64_1 t65_1 t66_1 t67_1 t68_1 t69_1 t70_1 t71_1 t72_1 t73_1 t74_1 t75_1 t76_1 t77_1 t78_1 t79_1 t80_1 t81_1 t82_1 t83_1 t84_1 t85_1 t86_1 t87_1 t88_1 t89_1 t90_1 t91_1 t92_1 t93_1 t94_1 t95_1 t96_1 t97_1 t98_1)
      else (
       F57_J13 K x3_1 ((eachR rdDig [(⟨u3.isList, u3.atom, u3.list⟩ : Sx), (⟨u4.isList, u4.atom, u4.list⟩ : Sx), (⟨u5.isList, u5.atom, u5.list⟩ : Sx)]).1) ((nmN ⟨u6.isList, u6.atom, u6.list⟩).1) ((eachR rdDig u7.list).1) false t1_1 t2_1 t3_1 t4_1 t5_1 t6_1 t7_1 t8_1 t9_1 t10_1 t11_1 t12_1 t13_1 t14_1 t15_1 t16_1 t17_1 t18_1 t19_1 t20_1 t21_1 t22_1 t23_1 t24_1 t25_1 t26_1 t27_1 t28_1 t29_1 t30_1 t31_1 t32_1 t33_1 t34_1 t35_1 t36_1 t37_1 t38_1 t39_1 t40_1 t41_1 t42_1 t43_1 t44_1 t45_1 t46_1 t47_1 t48_1 t49_1 t50_1 t51_1 t52_1 t53_1 t54_1 t55_1 t56_1 t57_1 t58_1 t59_1 t60_1 t61_1 t62_1 t63_1 t64_1 t65_1 t66_1 t67_1 t68_1 t69_1 t70_1 t71_1 t72_1 t73_1 t74_1 t75_1 t76_1 t77_1 t78_1 t79_1 t80_1 t81_1 t82_1 t83_1 t84_1 t85_1 t86_1 t87_1 t88_1 t89_1 t90_1 t91_1 t92_1 t93_1 t94_1 t95_1 t96_1 t97_1 t98_1)))))))
def F57 (g : prodL L57) (K : Kn) : Prop :=
 bif !g.1 then (
  F57_J2 K true g.1 g.2.1 g.2.2.1 0 0 0 0 0 0 0 0 0 0 0 0 0 0 0 0 0 0 0 0 0 0 0 0 0 0 0 0 0 0 0 0 0 0 0 0 0 0 0 0 0 0 0 0 0 0 0 0 0 0 0 0 0 0 0 0 0 0 0 0 0 0 0 0 false 0 0 0 0 0 0 0 0 0 0 0 0 0 0 0 0 0 0 0 0 0 0 0 0 0 0 0 0 0 0 0 0 0)
 else (
  F57_J2 K (!decide ((g.2.2.1.length : Int) = 6)) g.1 g.2.1 g.2.2.1 0 0 0 0 0 0 0 0 0 0 0 0 0 0 0 0 0 0 0 0 0 0 0 0 0 0 0 0 0 0 0 0 0 0 0 0 0 0 0 0 0 0 0 0 0 0 0 0 0 0 0 0 0 0 0 0 0 0 0 0 0 0 0 0 false 0 0 0 0 0 0 0 0 0 0 0 0 0 0 0 0 0 0 0 0 0 0 0 0 0 0 0 0 0 0 0 0 0)
theorem F57_eq (g : prodL L57) (K X : Kn) : F57 g K = dfun D (gamX [] [(42, false, sp42), (45, true, sp45)]) (isRaw []) H57 J57 107 [.cell 2 68, .tmp 3] (codeOf Tryz.f57) (argsT S57 L57 g) [] (settle0 K) X := by kernel_rfl
theorem F57_ok (g : prodL L57) (K X : Kn) (h : F57 g K) : FCalls Tryz.prog 57 (argsT S57 L57 g) [] K X :=
 FCalls.settle0 (dfun_sound D_ok (gmX (gmc sp42_ok (gmc sp45_ok gm0))) gamX_det rfl Tryz.func57 (c := codeOf Tryz.f57) rfl Tryz.ntmps57 Tryz.results57 (by unfold enters; rw [Tryz.func57]; kernel_rfl) (Nat.le_of_ble_eq_true (by kernel_rfl)) (c0 := 0) (Eq.mp (F57_eq g K X) h))
def H44 : List (Nat × Hint) := []
def J44 : List (Nat × Hint) := [(2, ⟨[((1, []), none), ((2, []), none)], [(1, .pt 0 0), (2, .pt 1 0), (21, .leaf)], [.cells [.leaf, .leaf, .leaf], .cells [.leaf, .nil, .nil, .nil]], [.bool, .bool, .str, .sl .sexp, .int .i64]⟩)]
abbrev S44 : List Sh := [.ag [.leaf, .leaf, .leaf]]
abbrev L44 : List Lf := [.bool, .str, .sl .sexp]
def F44_J2 (K : Kn) (t_1 x1_1 : Bool) (x2_1 : ByteArray) (x3_1 : List Sx) (t1_1 : Int) : Prop :=
 bif t_1 then (
  K (.tu [.ag [.int .i64 0, .nil, .nil, .nil], .bool false]) [])
 else (
  At x3_1 0 fun u3 =>
 sp45.pre (u3.isList, u3.atom, u3.list, ()) /\
 At x3_1 1 fun u4 =>
 sp42.pre (u4.list, ()) /\
 At x3_1 2 fun u5 =>
 sp42.pre (u5.list, ()) /\
 At x3_1 3 fun u6 =>
 sp42.pre (u6.list, ()) /\
 bif decide ((nmN ⟨u3.isList, u3.atom, u3.list⟩).2 = 0) then (
  bif (eachR rdDig u4.list).2 then (
   bif (eachR rdDig u5.list).2 then (
    bif (eachR rdDig u6.list).2 then (
     At x3_1 1 fun u7 =>
     bif u7.isList then (
      At x3_1 2 fun u8 =>
      bif u8.isList then (
       At x3_1 3 fun u9 =>
       K (.tu [.ag [.int .i64 ((nmN ⟨u3.isList, u3.atom, u3.list⟩).1), .sl false .dig ((eachR rdDig u4.list).1), .sl false .dig ((eachR rdDig u5.list).1), .sl false .dig ((eachR rdDig u6.list).1)], .bool u9.isList]) [])
      else (
       K (.tu [.ag [.int .i64 ((nmN ⟨u3.isList, u3.atom, u3.list⟩).1), .sl false .dig ((eachR rdDig u4.list).1), .sl false .dig ((eachR rdDig u5.list).1), .sl false .dig ((eachR rdDig u6.list).1)], .bool false]) []))
     else (
      K (.tu [.ag [.int .i64 ((nmN ⟨u3.isList, u3.atom, u3.list⟩).1), .sl false .dig ((eachR rdDig u4.list).1), .sl false .dig ((eachR rdDig u5.list).1), .sl false .dig ((eachR rdDig u6.list).1)], .bool false]) []))
    else (
     K (.tu [.ag [.int .i64 ((nmN ⟨u3.isList, u3.atom, u3.list⟩).1), .sl false .dig ((eachR rdDig u4.list).1), .sl false .dig ((eachR rdDig u5.list).1), .sl false .dig ((eachR rdDig u6.list).1)], .bool false]) []))
   else (
    K (.tu [.ag [.int .i64 ((nmN ⟨u3.isList, u3.atom, u3.list⟩).1), .sl false .dig ((eachR rdDig u4.list).1), .sl false .dig ((eachR rdDig u5.list).1), .sl false .dig ((eachR rdDig u6.list).1)], .bool false]) []))
  else (
   K (.tu [.ag [.int .i64 ((nmN ⟨u3.isList, u3.atom, u3.list⟩).1), .sl false .dig ((eachR rdDig u4.list).1), .sl false .dig ((eachR rdDig u5.list).1), .sl false .dig ((eachR rdDig u6.list).1)], .bool false]) []))
 else (
  K (.tu [.ag [.int .i64 ((nmN ⟨u3.isList, u3.atom, u3.list⟩).1), .sl false .dig ((eachR rdDig u4.list).1), .sl false .dig ((eachR rdDig u5.list).1), .sl false .dig ((eachR rdDig u6.list).1)], .bool false]) []))
def F44 (g : prodL L44) (K : Kn) : Prop :=
 bif !g.1 then (
  F44_J2 K true g.1 g.2.1 g.2.2.1 0)
 else (
  F44_J2 K (!decide ((g.2.2.1.length : Int) = 4)) g.1 g.2.1 g.2.2.1 0)
theorem F44_eq (g : prodL L44) (K X : Kn) : F44 g K = dfun D (gamX [] [(42, false, sp42), (45, true, sp45)]) (isRaw []) H44 J44 90 [.cell 2 28, .tmp 3] (codeOf Tryz.f44) (argsT S44 L44 g) [] (settle0 K) X := by kernel_rfl
theorem F44_ok (g : prodL L44) (K X : Kn) (h : F44 g K) : FCalls Tryz.prog 44 (argsT S44 L44 g) [] K X :=
 FCalls.settle0 (dfun_sound D_ok (gmX (gmc sp42_ok (gmc sp45_ok gm0))) gamX_det rfl Tryz.func44 (c := codeOf Tryz.f44) rfl Tryz.ntmps44 Tryz.results44 (by unfold enters; rw [Tryz.func44]; kernel_rfl) (Nat.le_of_ble_eq_true (by kernel_rfl)) (c0 := 0) (Eq.mp (F44_eq g K X) h))
end Go.Proofs.YtoclmkbjgmgekaaGreatDoor
namespace Go.Proofs.YtoclmkbjgmgekaaGreatDoor
open Go.RowKit
theorem rfRng_no {x : Sx} (h : x.isList = false ∨ x.list.length ≠ 6) : rfRng x = (rz, false) := by
 unfold rfRng
 split
 . rename_i h1 h2
   rw [h1, h2] at h
   simp at h
 . rfl
theorem rfSig_no {x : Sx} (h : x.isList = false ∨ x.list.length ≠ 4) : rfSig x = (sgn0, false) := by
 unfold rfSig
 split
 . rename_i h1 h2
   rw [h1, h2] at h
   simp at h
 . rfl
set_option maxRecDepth 100000 in
theorem F57_is {x : Sx} {K : Kn} (hb : bkS x <= lim) (h : K (.tu [.ag (enc .rng (rfRng x).1), .bool (rfRng x).2]) []) : F57 (x.isList, x.atom, x.list, ()) (wkK K) := by
 unfold F57
 show bif !x.isList then _ else _
 cases c : x.isList with
 | false =>
  rw [rfRng_no (Or.inl c)] at h
  rw [Bool.not_false, cond_true]
  unfold F57_J2
  rw [cond_true]
  exact wkK_up [.dig] h
 | true =>
  rw [Bool.not_true, cond_false]
  unfold F57_J2
  show bif !decide ((x.list.length : Int) = 6) then _ else _
  by_cases hs : x.list.length = 6
  . rw [decide_eq_true (by omega), Bool.not_true, cond_false]
    obtain ⟨a, b, c', d, e, f, hl⟩ := list6 hs
    have hsub := bkS_sub x
    have hm : ∀ y ∈ x.list, bkS y <= lim := fun y hy => Nat.le_trans (bkSs_mem hy) (Nat.le_trans hsub hb)
    have hsum : bkSs x.list <= lim := Nat.le_trans hsub hb
    have hx : rfRng x = if rfOk a b c' d e f = true then (⟨(rdDig a).1, (rdDig b).1, decide (c'.atom = ⟨#[49]⟩), (rdNum d).1, (rdDig e).1, (eachR rdDig f.list).1⟩, true) else (rz, false) := by
     unfold rfRng; rw [c, hl]
    rw [hx] at h
    have hno : rfOk a b c' d e f = false -> K (.tu [.ag (enc .rng rz), .bool false]) [] := fun e => by rw [e, if_neg (by simp)] at h; exact h
    have hyes : rfOk a b c' d e f = true -> K (.tu [.ag (enc .rng ⟨(rdDig a).1, (rdDig b).1, decide (c'.atom = ⟨#[49]⟩), (rdNum d).1, (rdDig e).1, (eachR rdDig f.list).1⟩), .bool true]) [] := fun e => by rw [if_pos e] at h; exact h
    clear h
    rw [hl] at hm hsum ⊢
    have m4 : bkS d <= lim := hm d (by simp)
    have m6 : bkSs f.list <= lim := Nat.le_trans (bkS_sub f) (hm f (by simp))
    have m0 : bkSs [a, b, e] <= lim := by simp only [bkSs] at hsum ⊢; omega
    refine ⟨Int.le_refl 0, a, rfl, by decide, b, rfl, by decide, e, rfl, by show bkSs [⟨a.isList, a.atom, a.list⟩, ⟨b.isList, b.atom, b.list⟩, ⟨e.isList, e.atom, e.list⟩] <= lim; rw [sx_eta, sx_eta, sx_eta]; exact m0, by decide, d, rfl, by show bkS ⟨d.isList, d.atom, d.list⟩ <= lim; rw [sx_eta]; exact m4, by decide, f, rfl, m6, ?_⟩
    simp only [sx_eta, nmN_eq]
    cases c1 : (eachR rdDig [a, b, e]).2 with
    | false =>
     unfold F57_J13
     exact wkK_up [.dig] (hno (by simp [rfOk, c1]))
    | true =>
     obtain ⟨_, _, _, q4⟩ := each3 c1
     cases c2 : decide ((nmG d).2 = 0) with
     | false =>
      unfold F57_J13
      exact wkK_up [.dig] (hno (by simp only [rfOk, c1, c2, Bool.true_and, Bool.false_and]))
     | true =>
      refine ⟨by decide, f, rfl, ?_⟩
      dsimp only
      cases c3 : f.isList with
      | false =>
       unfold F57_J13
       exact wkK_up [.dig] (hno (by simp only [rfOk, c1, c2, c3, Bool.true_and, Bool.false_and]))
      | true =>
       cases c4 : (eachR rdDig f.list).2 with
       | false =>
        unfold F57_J13
        exact wkK_up [.dig] (hno (by simp only [rfOk, c1, c2, c3, c4, Bool.true_and, Bool.false_and]))
       | true =>
        refine ⟨by decide, c', rfl, ?_⟩
        dsimp only
        cases c5 : c'.isList with
        | true =>
         unfold F57_J13
         exact wkK_up [.dig] (hno (by simp only [rfOk, c1, c2, c3, c4, c5, Bool.true_and, Bool.not_true, Bool.false_and]))
        | false =>
         refine ⟨by decide, c', rfl, ?_⟩
         dsimp only
         have last : (decide (c'.atom = ⟨#[48]⟩) || decide (c'.atom = ⟨#[49]⟩)) = true -> F57_J13 (wkK K) [a, b, c', d, e, f] (eachR rdDig [a, b, e]).1 (nmG d).1 (eachR rdDig f.list).1 false 0 0 0 0 0 0 0 0 0 0 0 0 0 0 0 0 0 0 0 0 0 0 0 0 0 0 0 0 0 0 0 0 0 0 0 0 0 0 0 0 0 0 0 0 0 0 0 0 0 0 0 0 0 0 0 0 0 0 0 0 0 0 0 0 false 0 0 0 0 0 0 0 0 0 0 0 0 0 0 0 0 0 0 0 0 0 0 0 0 0 0 0 0 0 0 0 0 0 := fun hz => by
          unfold F57_J13
          rw [q4]
          exact ⟨by decide, _, rfl, by decide, _, rfl, by decide, _, rfl, by decide, _, rfl, wkK.same (hyes (by simp only [rfOk, c1, c2, c3, c4, c5, Bool.true_and, Bool.not_false]; exact hz))⟩
         cases c6 : decide (c'.atom = ⟨#[48]⟩) with
         | true => exact last (by rw [c6]; rfl)
         | false =>
          refine ⟨by decide, c', rfl, ?_⟩
          dsimp only
          cases c7 : decide (c'.atom = ⟨#[49]⟩) with
          | true => exact last (by rw [c7]; simp)
          | false =>
           unfold F57_J13
           exact wkK_up [.dig] (hno (by simp only [rfOk, c1, c2, c3, c4, c5, c6, c7, Bool.true_and, Bool.not_false, Bool.or_false]))
  . rw [rfRng_no (Or.inr hs)] at h
    rw [decide_eq_false (by omega), Bool.not_false, cond_true]
    exact wkK_up [.dig] h
def sp57 : Sp := ⟨S57, L57, fun g => bkS ⟨g.1, g.2.1, g.2.2.1⟩ <= lim, fun g => .tu [.ag (enc .rng (rfRng ⟨g.1, g.2.1, g.2.2.1⟩).1), .bool (rfRng ⟨g.1, g.2.1, g.2.2.1⟩).2], fun _ => none⟩
theorem sp57_ok : sp57.Ok Tryz.prog 57 false :=
 ⟨fun g K X hp h => FCalls.weak (F57_ok g (wkK K) X (F57_is (x := ⟨g.1, g.2.1, g.2.2.1⟩) hp h)), fun _ _ _ => rfl, fun _ => rfl, fun h => (by cases h)⟩
theorem F44_is {x : Sx} {K : Kn} (hb : bkS x <= lim) (h : K (.tu [.ag (enc .sgn (rfSig x).1), .bool (rfSig x).2]) []) : F44 (x.isList, x.atom, x.list, ()) (wkK K) := by
 unfold F44
 show bif !x.isList then _ else _
 cases c : x.isList with
 | false =>
  rw [rfSig_no (Or.inl c)] at h
  rw [Bool.not_false, cond_true]
  unfold F44_J2
  rw [cond_true]
  exact wkK_up [.dig, .dig, .dig] h
 | true =>
  rw [Bool.not_true, cond_false]
  unfold F44_J2
  show bif !decide ((x.list.length : Int) = 4) then _ else _
  by_cases hs : x.list.length = 4
  . rw [decide_eq_true (by omega), Bool.not_true, cond_false]
    obtain ⟨a, b, c', d, hl⟩ := list4 hs
    have hsub := bkS_sub x
    have hm : ∀ y ∈ x.list, bkS y <= lim := fun y hy => Nat.le_trans (bkSs_mem hy) (Nat.le_trans hsub hb)
    have hx : rfSig x = (⟨(rdNum a).1, (eachR rdDig b.list).1, (eachR rdDig c'.list).1, (eachR rdDig d.list).1⟩, (rdNum a).2 && ((eachR rdDig b.list).2 && ((eachR rdDig c'.list).2 && ((eachR rdDig d.list).2 && (b.isList && (c'.isList && d.isList)))))) := by
     unfold rfSig; rw [c, hl]
    rw [hx] at h
    rw [hl] at hm ⊢
    have m1 : bkS a <= lim := hm a (by simp)
    have m2 : bkSs b.list <= lim := Nat.le_trans (bkS_sub b) (hm b (by simp))
    have m3 : bkSs c'.list <= lim := Nat.le_trans (bkS_sub c') (hm c' (by simp))
    have m4 : bkSs d.list <= lim := Nat.le_trans (bkS_sub d) (hm d (by simp))
    refine ⟨Int.le_refl 0, a, rfl, by show bkS ⟨a.isList, a.atom, a.list⟩ <= lim; rw [sx_eta]; exact m1, by decide, b, rfl, m2, by decide, c', rfl, m3, by decide, d, rfl, m4, ?_⟩
    simp only [sx_eta, nmN_eq]
    show bif (rdNum a).2 then _ else _
    cases c1 : (rdNum a).2 <;> simp only [c1, cond_true, cond_false, Bool.true_and, Bool.false_and] at h ⊢
    . exact wkK.same h
    cases c2 : (eachR rdDig b.list).2 <;> simp only [c2, cond_true, cond_false, Bool.true_and, Bool.false_and] at h ⊢
    . exact wkK.same h
    cases c3 : (eachR rdDig c'.list).2 <;> simp only [c3, cond_true, cond_false, Bool.true_and, Bool.false_and] at h ⊢
    . exact wkK.same h
    cases c4 : (eachR rdDig d.list).2 <;> simp only [c4, cond_true, cond_false, Bool.true_and, Bool.false_and] at h ⊢
    . exact wkK.same h
    refine ⟨by decide, b, rfl, ?_⟩
    cases c5 : b.isList <;> simp only [c5, cond_true, cond_false, Bool.true_and, Bool.false_and] at h ⊢
    . exact wkK.same h
    refine ⟨by decide, c', rfl, ?_⟩
    cases c6 : c'.isList <;> simp only [c6, cond_true, cond_false, Bool.true_and, Bool.false_and] at h ⊢
    . exact wkK.same h
    exact ⟨by decide, d, rfl, wkK.same h⟩
  . rw [rfSig_no (Or.inr hs)] at h
    rw [decide_eq_false (by omega), Bool.not_false, cond_true]
    exact wkK_up [.dig, .dig, .dig] h
def sp44 : Sp := ⟨S44, L44, fun g => bkS ⟨g.1, g.2.1, g.2.2.1⟩ <= lim, fun g => .tu [.ag (enc .sgn (rfSig ⟨g.1, g.2.1, g.2.2.1⟩).1), .bool (rfSig ⟨g.1, g.2.1, g.2.2.1⟩).2], fun _ => none⟩
theorem sp44_ok : sp44.Ok Tryz.prog 44 false :=
 ⟨fun g K X hp h => FCalls.weak (F44_ok g (wkK K) X (F44_is (x := ⟨g.1, g.2.1, g.2.2.1⟩) hp h)), fun _ _ _ => rfl, fun _ => rfl, fun h => (by cases h)⟩
end Go.Proofs.YtoclmkbjgmgekaaGreatDoor
namespace Go.Proofs.YtoclmkbjgmgekaaGreatDoor
open Go.RowKit
attribute [local irreducible] dfun dround
def H41 : List (Nat × Hint) := [(3, ⟨[((4, []), some .rng)], [(0, .leaf), (4, .oa .rng 0), (5, .leaf)], [.arr .rng], [.sl .sexp, .int .i64, .sl .rng]⟩)]
def J41 : List (Nat × Hint) := []
abbrev S41 : List Sh := [.leaf]
abbrev L41 : List Lf := [.sl .sexp]
def F41_B5 (K : Kn) (W5 : prodL [.sl .sexp, .int .i64, .sl .rng] -> Prop) (l_4 : List Sx) (i_4 : Int) (out_4 : List Rng) : Prop :=
 bif decide (i_4 < (l_4.length : Int)) then (
  At l_4 i_4 fun u6 =>
 sp57.pre (u6.isList, u6.atom, u6.list, ()) /\
 bif !((rfRng ⟨u6.isList, u6.atom, u6.list⟩).2) then (
  K (.tu [.nil, .bool false]) [])
 else (
  Room (out_4.length + [((rfRng ⟨u6.isList, u6.atom, u6.list⟩).1)].length) 136 (
 W5 (l_4, IntKind.i64.wrap (i_4 + 1), out_4 ++ [((rfRng ⟨u6.isList, u6.atom, u6.list⟩).1)], ()))))
 else (
  K (.tu [.sl false .rng out_4, .bool true]) [])
def F41_L5 (K : Kn) (g : prodL [.sl .sexp, .int .i64, .sl .rng]) : Prop :=
 LoopW (γ := prodL [.sl .sexp, .int .i64, .sl .rng]) (fun V y => F41_B5 K V y.1 y.2.1 y.2.2.1) g
def F41 (g : prodL L41) (K : Kn) : Prop :=
 F41_L5 K (g.1, 0, [], ())
theorem F41_eq (g : prodL L41) (K X : Kn) : F41 g K = dfun D (gamX [] [(57, false, sp57)]) (isRaw []) H41 J41 30 [.tmp 2, .tmp 3] (codeOf Tryz.f41) (argsT S41 L41 g) [] (settle0 K) X := by kernel_rfl
theorem F41_ok (g : prodL L41) (K X : Kn) (h : F41 g K) : FCalls Tryz.prog 41 (argsT S41 L41 g) [] K X :=
 FCalls.settle0 (dfun_sound (Γ := gamX [] [(57, false, sp57)]) (mu := isRaw []) (H := H41) (J := J41) D_ok (gamX_ok (rs := []) (l := [(57, false, sp57)]) (fun p hp => by cases hp) (by intro p hp; simp only [List.mem_cons, List.not_mem_nil, or_false] at hp; subst hp; exact sp57_ok)) gamX_det rfl Tryz.func41 (c := codeOf Tryz.f41) rfl Tryz.ntmps41 Tryz.results41 (by unfold enters; rw [Tryz.func41]; kernel_rfl) (Nat.le_of_ble_eq_true (by kernel_rfl)) (c0 := 0) (Eq.mp (F41_eq g K X) h))
end Go.Proofs.YtoclmkbjgmgekaaGreatDoor
namespace Go.Proofs.YtoclmkbjgmgekaaGreatDoor
open Go.RowKit
theorem F41_is {l : List Sx} {K : Kn} (hl : bkSs l <= lim) (h : K (.tu [.sl false .rng (eachR rfRng l).1, .bool (eachR rfRng l).2]) []) : F41 (l, ()) (wkK K) := by
 have hlen := bkSs_len l
 unfold lim at hl
 unfold F41 F41_L5
 refine LoopW.each rfRng l (fun n out => (l, n, out, ())) (fun r => K (.tu [.sl false .rng r.1, .bool r.2]) []) (by omega) rfl h (fun W n hn out ho ht hf => ?_) fun h W => ?_
 . show F41_B5 (wkK K) W l n out
   unfold F41_B5
   rw [lt_true hn, cond_true]
   have hm := bkSs_mem (List.getElem_mem hn)
   refine At_of hn ⟨by show bkS ⟨l[n].isList, l[n].atom, l[n].list⟩ <= lim; rw [sx_eta]; unfold lim; omega, ?_⟩
   rw [sx_eta]
   cases c : (rfRng l[n]).2 with
   | true => exact ⟨by simp only [List.length_singleton, ho]; omega, ht c⟩
   | false => exact wkK_nilE .rng (hf c)
 . show F41_B5 (wkK K) W l (l.length : Int) (l.map fun x => (rfRng x).1)
   unfold F41_B5
   rw [lt_false, cond_false]
   exact wkK.same h
def sp41 : Sp := ⟨S41, L41, fun g => bkSs g.1 <= lim, fun g => .tu [.sl false .rng (eachR rfRng g.1).1, .bool (eachR rfRng g.1).2], fun _ => none⟩
theorem sp41_ok : sp41.Ok Tryz.prog 41 false :=
 ⟨fun g K X hp h => FCalls.weak (F41_ok g (wkK K) X (F41_is hp h)), fun _ _ _ => rfl, fun _ => rfl, fun h => (by cases h)⟩
end Go.Proofs.YtoclmkbjgmgekaaGreatDoor
namespace Go.Proofs.YtoclmkbjgmgekaaGreatDoor
open Go.RowKit
attribute [local irreducible] dfun dround
def H15 : List (Nat × Hint) := []
def J15 : List (Nat × Hint) := [(13, ⟨[((2, []), none), ((4, []), none)], [(1, .leaf), (2, .pt 0 0), (4, .pt 1 0), (57, .leaf)], [.cells [.leaf, .leaf, .leaf, .leaf, .leaf, .leaf, .leaf, .leaf, .leaf, .leaf, .leaf, .leaf], .cells [.leaf, .leaf, .nil, .nil, .nil, .nil, .leaf, .leaf, .leaf, .nil, .nil, .nil]], [.sl .sexp, .bool, .int .i64, .str, .sl .dig, .sl .rng, .sl .str, .sl .str, .int .i64, .str, .int .i64, .sl .dig, .sl .dig, .sl .dig, .int .i64, .str, .int .i64, .str, .int .i64]⟩), (21, ⟨[((2, []), none), ((4, []), none)], [(1, .leaf), (2, .pt 0 0), (4, .pt 1 0), (94, .leaf)], [.cells [.leaf, .leaf, .leaf, .leaf, .leaf, .leaf, .leaf, .leaf, .leaf, .leaf, .leaf, .leaf], .cells [.leaf, .leaf, .nil, .nil, .nil, .nil, .leaf, .leaf, .leaf, .nil, .nil, .nil]], [.sl .sexp, .bool, .int .i64, .str, .sl .dig, .sl .rng, .sl .str, .sl .str, .int .i64, .str, .int .i64, .sl .dig, .sl .dig, .sl .dig, .int .i64, .str, .int .i64, .str, .int .i64]⟩), (26, ⟨[((2, []), none), ((4, []), none)], [(2, .pt 0 0), (4, .pt 1 0), (6, .leaf)], [.cells [.leaf, .leaf, .leaf, .leaf, .leaf, .leaf, .leaf, .leaf, .leaf, .leaf, .leaf, .leaf], .cells [.leaf, .leaf, .nil, .nil, .nil, .nil, .leaf, .leaf, .leaf, .nil, .nil, .nil]], [.bool, .int .i64, .str, .sl .dig, .sl .rng, .sl .str, .sl .str, .int .i64, .str, .int .i64, .sl .dig, .sl .dig, .sl .dig, .int .i64, .str, .int .i64, .str, .int .i64]⟩)]
abbrev S15 : List Sh := [.ag [.leaf, .leaf, .leaf, .leaf, .leaf, .leaf, .leaf, .leaf, .leaf, .leaf, .leaf, .leaf], .leaf]
abbrev L15 : List Lf := [.int .i64, .str, .sl .dig, .sl .rng, .sl .str, .sl .str, .int .i64, .str, .int .i64, .sl .dig, .sl .dig, .sl .dig, .sl .sexp]
def F15_J14 (K : Kn) (ok_13 : Bool) (m1_13 : Int) (m2_13 : ByteArray) (m3_13 : List Dig) (m4_13 : List Rng) (m5_13 : List ByteArray) (m6_13 : List ByteArray) (m7_13 : Int) (m8_13 : ByteArray) (m9_13 : Int) (m10_13 : List Dig) (m11_13 : List Dig) (m12_13 : List Dig) (t1_13 : Int) (t2_13 : ByteArray) (t7_13 : Int) (t8_13 : ByteArray) (t9_13 : Int) : Prop :=
 K (.tu [.ag [.int .i64 m1_13, .str m2_13, .sl false .dig m3_13, .sl false .rng m4_13, .sl false .str m5_13, .sl false .str m6_13, .int .i64 m7_13, .str m8_13, .int .i64 m9_13, .sl false .dig m10_13, .sl false .dig m11_13, .sl false .dig m12_13], .bool ok_13]) []
def F15_J4 (K : Kn) (l_3 : List Sx) (t_3 : Bool) (m1_3 : Int) (m2_3 : ByteArray) (m3_3 : List Dig) (m4_3 : List Rng) (m5_3 : List ByteArray) (m6_3 : List ByteArray) (m7_3 : Int) (m8_3 : ByteArray) (m9_3 : Int) (m10_3 : List Dig) (m11_3 : List Dig) (m12_3 : List Dig) (t1_3 : Int) (t2_3 : ByteArray) (t7_3 : Int) (t8_3 : ByteArray) (t9_3 : Int) : Prop :=
 bif t_3 then (
       K (.tu [.ag [.int .i64 m1_3, .str m2_3, .sl false .dig m3_3, .sl false .rng m4_3, .sl false .str m5_3, .sl false .str m6_3, .int .i64 m7_3, .str m8_3, .int .i64 m9_3, .sl false .dig m10_3, .sl false .dig m11_3, .sl false .dig m12_3], .bool false]) [])
      else (
       At l_3 0 fun u5 =>
      At l_3 1 fun u6 =>
      sp42.pre (u6.list, ()) /\
      bif !((eachR rdDig u6.list).2) then (
       K (.tu [.ag [.int .i64 m1_3, .str u5.atom, .sl false .dig ((eachR rdDig u6.list).1), .sl false .rng m4_3, .sl false .str m5_3, .sl false .str m6_3, .int .i64 m7_3, .str m8_3, .int .i64 m9_3, .sl false .dig m10_3, .sl false .dig m11_3, .sl false .dig m12_3], .bool false]) [])
      else (
       At l_3 2 fun u7 =>
      sp44.pre (u7.isList, u7.atom, u7.list, ()) /\
      F15_J14 K ((rfSig ⟨u7.isList, u7.atom, u7.list⟩).2) m1_3 u5.atom ((eachR rdDig u6.list).1) m4_3 m5_3 m6_3 m7_3 m8_3 (((rfSig ⟨u7.isList, u7.atom, u7.list⟩).1).index) (((rfSig ⟨u7.isList, u7.atom, u7.list⟩).1).revealed) (((rfSig ⟨u7.isList, u7.atom, u7.list⟩).1).others) (((rfSig ⟨u7.isList, u7.atom, u7.list⟩).1).path) t1_3 t2_3 t7_3 t8_3 t9_3))
def F15_J10 (K : Kn) (l_9 : List Sx) (t_9 : Bool) (m1_9 : Int) (m2_9 : ByteArray) (m3_9 : List Dig) (m4_9 : List Rng) (m5_9 : List ByteArray) (m6_9 : List ByteArray) (m7_9 : Int) (m8_9 : ByteArray) (m9_9 : Int) (m10_9 : List Dig) (m11_9 : List Dig) (m12_9 : List Dig) (t1_9 : Int) (t2_9 : ByteArray) (t7_9 : Int) (t8_9 : ByteArray) (t9_9 : Int) : Prop :=
 bif t_9 then (
        K (.tu [.ag [.int .i64 m1_9, .str m2_9, .sl false .dig m3_9, .sl false .rng m4_9, .sl false .str m5_9, .sl false .str m6_9, .int .i64 m7_9, .str m8_9, .int .i64 m9_9, .sl false .dig m10_9, .sl false .dig m11_9, .sl false .dig m12_9], .bool false]) [])
       else (
        At l_9 0 fun u11 =>
       sp45.pre (u11.isList, u11.atom, u11.list, ()) /\
       At l_9 1 fun u12 =>
       F15_J14 K (decide ((nmN ⟨u11.isList, u11.atom, u11.list⟩).2 = 0)) m1_9 m2_9 m3_9 m4_9 m5_9 m6_9 ((nmN ⟨u11.isList, u11.atom, u11.list⟩).1) u12.atom m9_9 m10_9 m11_9 m12_9 t1_9 t2_9 t7_9 t8_9 t9_9)
def F15 (g : prodL L15) (K : Kn) : Prop :=
 bif decide (g.1 = 1) then (
  sp41.pre (g.2.2.2.2.2.2.2.2.2.2.2.2.1, ()) /\
  F15_J14 K ((eachR rfRng g.2.2.2.2.2.2.2.2.2.2.2.2.1).2) g.1 g.2.1 g.2.2.1 ((eachR rfRng g.2.2.2.2.2.2.2.2.2.2.2.2.1).1) g.2.2.2.2.1 g.2.2.2.2.2.1 g.2.2.2.2.2.2.1 g.2.2.2.2.2.2.2.1 g.2.2.2.2.2.2.2.2.1 g.2.2.2.2.2.2.2.2.2.1 g.2.2.2.2.2.2.2.2.2.2.1 g.2.2.2.2.2.2.2.2.2.2.2.1 0 (⟨#[]⟩ : ByteArray) 0 (⟨#[]⟩ : ByteArray) 0)
 else (
  bif decide (g.1 = 2) then (
   sp42.pre (g.2.2.2.2.2.2.2.2.2.2.2.2.1, ()) /\
   F15_J14 K ((eachR rdDig g.2.2.2.2.2.2.2.2.2.2.2.2.1).2) g.1 g.2.1 ((eachR rdDig g.2.2.2.2.2.2.2.2.2.2.2.2.1).1) g.2.2.2.1 g.2.2.2.2.1 g.2.2.2.2.2.1 g.2.2.2.2.2.2.1 g.2.2.2.2.2.2.2.1 g.2.2.2.2.2.2.2.2.1 g.2.2.2.2.2.2.2.2.2.1 g.2.2.2.2.2.2.2.2.2.2.1 g.2.2.2.2.2.2.2.2.2.2.2.1 0 (⟨#[]⟩ : ByteArray) 0 (⟨#[]⟩ : ByteArray) 0)
  else (
   bif decide (g.1 = 3) then (
    sp43.pre (g.2.2.2.2.2.2.2.2.2.2.2.2.1, ()) /\
    F15_J14 K ((eachR rdText g.2.2.2.2.2.2.2.2.2.2.2.2.1).2) g.1 g.2.1 g.2.2.1 g.2.2.2.1 ((eachR rdText g.2.2.2.2.2.2.2.2.2.2.2.2.1).1) g.2.2.2.2.2.1 g.2.2.2.2.2.2.1 g.2.2.2.2.2.2.2.1 g.2.2.2.2.2.2.2.2.1 g.2.2.2.2.2.2.2.2.2.1 g.2.2.2.2.2.2.2.2.2.2.1 g.2.2.2.2.2.2.2.2.2.2.2.1 0 (⟨#[]⟩ : ByteArray) 0 (⟨#[]⟩ : ByteArray) 0)
   else (
    bif decide (g.1 = 4) then (
     F15_J14 K (decide ((g.2.2.2.2.2.2.2.2.2.2.2.2.1.length : Int) = 0)) g.1 g.2.1 g.2.2.1 g.2.2.2.1 g.2.2.2.2.1 g.2.2.2.2.2.1 g.2.2.2.2.2.2.1 g.2.2.2.2.2.2.2.1 g.2.2.2.2.2.2.2.2.1 g.2.2.2.2.2.2.2.2.2.1 g.2.2.2.2.2.2.2.2.2.2.1 g.2.2.2.2.2.2.2.2.2.2.2.1 0 (⟨#[]⟩ : ByteArray) 0 (⟨#[]⟩ : ByteArray) 0)
    else (
     bif decide (g.1 = 5) then (
      bif !decide ((g.2.2.2.2.2.2.2.2.2.2.2.2.1.length : Int) = 3) then (
       F15_J4 K g.2.2.2.2.2.2.2.2.2.2.2.2.1 true g.1 g.2.1 g.2.2.1 g.2.2.2.1 g.2.2.2.2.1 g.2.2.2.2.2.1 g.2.2.2.2.2.2.1 g.2.2.2.2.2.2.2.1 g.2.2.2.2.2.2.2.2.1 g.2.2.2.2.2.2.2.2.2.1 g.2.2.2.2.2.2.2.2.2.2.1 g.2.2.2.2.2.2.2.2.2.2.2.1 0 (⟨#[]⟩ : ByteArray) 0 (⟨#[]⟩ : ByteArray) 0)
      else (
       At g.2.2.2.2.2.2.2.2.2.2.2.2.1 0 fun u1 =>
       bif u1.isList then (
        F15_J4 K g.2.2.2.2.2.2.2.2.2.2.2.2.1 true g.1 g.2.1 g.2.2.1 g.2.2.2.1 g.2.2.2.2.1 g.2.2.2.2.2.1 g.2.2.2.2.2.2.1 g.2.2.2.2.2.2.2.1 g.2.2.2.2.2.2.2.2.1 g.2.2.2.2.2.2.2.2.2.1 g.2.2.2.2.2.2.2.2.2.2.1 g.2.2.2.2.2.2.2.2.2.2.2.1 0 (⟨#[]⟩ : ByteArray) 0 (⟨#[]⟩ : ByteArray) 0)
       else (
        At g.2.2.2.2.2.2.2.2.2.2.2.2.1 1 fun u2 =>
        F15_J4 K g.2.2.2.2.2.2.2.2.2.2.2.2.1 (!u2.isList) g.1 g.2.1 g.2.2.1 g.2.2.2.1 g.2.2.2.2.1 g.2.2.2.2.2.1 g.2.2.2.2.2.2.1 g.2.2.2.2.2.2.2.1 g.2.2.2.2.2.2.2.2.1 g.2.2.2.2.2.2.2.2.2.1 g.2.2.2.2.2.2.2.2.2.2.1 g.2.2.2.2.2.2.2.2.2.2.2.1 0 (⟨#[]⟩ : ByteArray) 0 (⟨#[]⟩ : ByteArray) 0)))
     else (
      bif decide (g.1 = 6) then (
       bif !decide ((g.2.2.2.2.2.2.2.2.2.2.2.2.1.length : Int) = 2) then (
        F15_J10 K g.2.2.2.2.2.2.2.2.2.2.2.2.1 true g.1 g.2.1 g.2.2.1 g.2.2.2.1 g.2.2.2.2.1 g.2.2.2.2.2.1 g.2.2.2.2.2.2.1 g.2.2.2.2.2.2.2.1 g.2.2.2.2.2.2.2.2.1 g.2.2.2.2.2.2.2.2.2.1 g.2.2.2.2.2.2.2.2.2.2.1 g.2.2.2.2.2.2.2.2.2.2.2.1 0 (⟨#[]⟩ : ByteArray) 0 (⟨#[]⟩ : ByteArray) 0)
       else (
        At g.2.2.2.2.2.2.2.2.2.2.2.2.1 1 fun u8 =>
        F15_J10 K g.2.2.2.2.2.2.2.2.2.2.2.2.1 u8.isList g.1 g.2.1 g.2.2.1 g.2.2.2.1 g.2.2.2.2.1 g.2.2.2.2.2.1 g.2.2.2.2.2.2.1 g.2.2.2.2.2.2.2.1 g.2.2.2.2.2.2.2.2.1 g.2.2.2.2.2.2.2.2.2.1 g.2.2.2.2.2.2.2.2.2.2.1 g.2.2.2.2.2.2.2.2.2.2.2.1 0 (⟨#[]⟩ : ByteArray) 0 (⟨#[]⟩ : ByteArray) 0))
      else (
       bif decide (g.1 = 7) then (
        sp43.pre (g.2.2.2.2.2.2.2.2.2.2.2.2.1, ()) /\
        F15_J14 K ((eachR rdText g.2.2.2.2.2.2.2.2.2.2.2.2.1).2) g.1 g.2.1 g.2.2.1 g.2.2.2.1 g.2.2.2.2.1 ((eachR rdText g.2.2.2.2.2.2.2.2.2.2.2.2.1).1) g.2.2.2.2.2.2.1 g.2.2.2.2.2.2.2.1 g.2.2.2.2.2.2.2.2.1 g.2.2.2.2.2.2.2.2.2.1 g.2.2.2.2.2.2.2.2.2.2.1 g.2.2.2.2.2.2.2.2.2.2.2.1 0 (⟨#[]⟩ : ByteArray) 0 (⟨#[]⟩ : ByteArray) 0)
       else (
        F15_J14 K true g.1 g.2.1 g.2.2.1 g.2.2.2.1 g.2.2.2.2.1 g.2.2.2.2.2.1 g.2.2.2.2.2.2.1 g.2.2.2.2.2.2.2.1 g.2.2.2.2.2.2.2.2.1 g.2.2.2.2.2.2.2.2.2.1 g.2.2.2.2.2.2.2.2.2.2.1 g.2.2.2.2.2.2.2.2.2.2.2.1 0 (⟨#[]⟩ : ByteArray) 0 (⟨#[]⟩ : ByteArray) 0)))))))
theorem F15_eq (g : prodL L15) (K X : Kn) : F15 g K = dfun D (gamX [] [(41, false, sp41), (42, false, sp42), (43, false, sp43), (44, false, sp44), (45, true, sp45)]) (isRaw []) H15 J15 122 [.cell 4 30, .tmp 5] (codeOf Tryz.f15) (argsT S15 L15 g) [] (settle0 K) X := by kernel_rfl
theorem F15_ok (g : prodL L15) (K X : Kn) (h : F15 g K) : FCalls Tryz.prog 15 (argsT S15 L15 g) [] K X :=
 FCalls.settle0 (dfun_sound D_ok (gmX (gmc sp41_ok (gmc sp42_ok (gmc sp43_ok (gmc sp44_ok (gmc sp45_ok gm0)))))) gamX_det rfl Tryz.func15 (c := codeOf Tryz.f15) rfl Tryz.ntmps15 Tryz.results15 (by unfold enters; rw [Tryz.func15]; kernel_rfl) (Nat.le_of_ble_eq_true (by kernel_rfl)) (c0 := 0) (Eq.mp (F15_eq g K X) h))
end Go.Proofs.YtoclmkbjgmgekaaGreatDoor
namespace Go.Proofs.YtoclmkbjgmgekaaGreatDoor
open Go.RowKit
theorem rf5_no {m : Msg} {l : List Sx} (h : l.length ≠ 3) : rf5 m l = (m, false) := by
 unfold rf5
 split
 . simp at h
 . rfl
theorem rf6_no {m : Msg} {l : List Sx} (h : l.length ≠ 2) : rf6 m l = (m, false) := by
 unfold rf6
 split
 . simp at h
 . rfl
theorem F15_is {m : Msg} {l : List Sx} {K : Kn} (hb : bkSs l <= lim) (h : K (.tu [.ag (enc .msg (rfF m l).1), .bool (rfF m l).2]) []) : F15 (m.kind, m.name, m.ids, m.ranges, m.patches, m.paths, m.code, m.text, m.sig.index, m.sig.revealed, m.sig.others, m.sig.path, l, ()) K := by
 unfold F15
 unfold rfF at h
 show bif decide (m.kind = 1) then _ else _
 by_cases h1 : m.kind = 1
 . rw [decide_eq_true h1, cond_true]
   rw [if_pos h1] at h
   exact ⟨hb, h⟩
 rw [decide_eq_false h1, cond_false]
 rw [if_neg h1] at h
 show bif decide (m.kind = 2) then _ else _
 by_cases h2 : m.kind = 2
 . rw [decide_eq_true h2, cond_true]
   rw [if_pos h2] at h
   exact ⟨hb, h⟩
 rw [decide_eq_false h2, cond_false]
 rw [if_neg h2] at h
 show bif decide (m.kind = 3) then _ else _
 by_cases h3 : m.kind = 3
 . rw [decide_eq_true h3, cond_true]
   rw [if_pos h3] at h
   exact ⟨hb, h⟩
 rw [decide_eq_false h3, cond_false]
 rw [if_neg h3] at h
 show bif decide (m.kind = 4) then _ else _
 by_cases h4 : m.kind = 4
 . rw [decide_eq_true h4, cond_true]
   rw [if_pos h4] at h
   have e : decide ((l.length : Int) = 0) = decide (l.length = 0) := by rw [decide_eq_decide]; omega
   unfold F15_J14
   dsimp only
   rw [e]
   exact h
 rw [decide_eq_false h4, cond_false]
 rw [if_neg h4] at h
 show bif decide (m.kind = 5) then _ else _
 by_cases h5 : m.kind = 5
 . rw [decide_eq_true h5, cond_true]
   rw [if_pos h5] at h
   show bif !decide ((l.length : Int) = 3) then _ else _
   by_cases hs : l.length = 3
   . rw [decide_eq_true (by omega), Bool.not_true, cond_false]
     obtain ⟨a, b, c, rfl⟩ := list3 hs
     have m2 : bkSs b.list <= lim := Nat.le_trans (Nat.le_trans (bkS_sub b) (bkSs_mem (by simp))) hb
     have m3 : bkS c <= lim := Nat.le_trans (bkSs_mem (by simp)) hb
     have e : rf5 m [a, b, c] = if a.isList = true ∨ b.isList = false then (m, false) else if (eachR rdDig b.list).2 = false then ({ m with name := a.atom, ids := (eachR rdDig b.list).1 }, false)
       else ({ m with name := a.atom, ids := (eachR rdDig b.list).1, sig := (rfSig c).1 }, (rfSig c).2) := rfl
     rw [e] at h
     refine ⟨Int.le_refl 0, a, rfl, ?_⟩
     dsimp only
     cases c1 : a.isList with
     | true =>
      rw [if_pos (Or.inl c1)] at h
      exact h
     | false =>
      refine ⟨by decide, b, rfl, ?_⟩
      try dsimp only
      cases c2 : b.isList with
      | false =>
       rw [if_pos (Or.inr c2)] at h
       exact h
      | true =>
       rw [if_neg (by simp [c1, c2])] at h
       refine ⟨by decide, a, rfl, by decide, b, rfl, m2, ?_⟩
       try dsimp only
       cases c3 : (eachR rdDig b.list).2 with
       | false =>
        rw [if_pos c3] at h
        exact h
       | true =>
        rw [if_neg (by simp [c3])] at h
        refine ⟨by decide, c, rfl, by show bkS ⟨c.isList, c.atom, c.list⟩ <= lim; rw [sx_eta]; exact m3, ?_⟩
        simp only [sx_eta]
        exact h
   . rw [rf5_no hs] at h
     rw [decide_eq_false (by omega), Bool.not_false, cond_true]
     exact h
 rw [decide_eq_false h5, cond_false]
 rw [if_neg h5] at h
 show bif decide (m.kind = 6) then _ else _
 by_cases h6 : m.kind = 6
 . rw [decide_eq_true h6, cond_true]
   rw [if_pos h6] at h
   show bif !decide ((l.length : Int) = 2) then _ else _
   by_cases hs : l.length = 2
   . rw [decide_eq_true (by omega), Bool.not_true, cond_false]
     obtain ⟨a, b, rfl⟩ := list2 hs
     have m1 : bkS a <= lim := Nat.le_trans (bkSs_mem (by simp)) hb
     have e : rf6 m [a, b] = if b.isList = true then (m, false) else ({ m with code := (rdNum a).1, text := b.atom }, (rdNum a).2) := rfl
     rw [e] at h
     refine ⟨by decide, b, rfl, ?_⟩
     dsimp only
     cases c1 : b.isList with
     | true =>
      rw [if_pos c1] at h
      exact h
     | false =>
      rw [if_neg (by simp [c1])] at h
      refine ⟨Int.le_refl 0, a, rfl, by show bkS ⟨a.isList, a.atom, a.list⟩ <= lim; rw [sx_eta]; exact m1, by decide, b, rfl, ?_⟩
      dsimp only
      simp only [sx_eta, nmN_eq]
      exact h
   . rw [rf6_no hs] at h
     rw [decide_eq_false (by omega), Bool.not_false, cond_true]
     exact h
 rw [decide_eq_false h6, cond_false]
 rw [if_neg h6] at h
 show bif decide (m.kind = 7) then _ else _
 by_cases h7 : m.kind = 7
 . rw [decide_eq_true h7, cond_true]
   rw [if_pos h7] at h
   exact ⟨hb, h⟩
 rw [decide_eq_false h7, cond_false]
 rw [if_neg h7] at h
 exact h
def sp15 : Sp := ⟨S15, L15, fun g => bkSs g.2.2.2.2.2.2.2.2.2.2.2.2.1 <= lim, fun g => .tu [.ag (enc .msg (rfF ⟨g.1, g.2.1, g.2.2.1, g.2.2.2.1, g.2.2.2.2.1, g.2.2.2.2.2.1, g.2.2.2.2.2.2.1, g.2.2.2.2.2.2.2.1, ⟨g.2.2.2.2.2.2.2.2.1, g.2.2.2.2.2.2.2.2.2.1, g.2.2.2.2.2.2.2.2.2.2.1, g.2.2.2.2.2.2.2.2.2.2.2.1⟩⟩ g.2.2.2.2.2.2.2.2.2.2.2.2.1).1), .bool (rfF ⟨g.1, g.2.1, g.2.2.1, g.2.2.2.1, g.2.2.2.2.1, g.2.2.2.2.2.1, g.2.2.2.2.2.2.1, g.2.2.2.2.2.2.2.1, ⟨g.2.2.2.2.2.2.2.2.1, g.2.2.2.2.2.2.2.2.2.1, g.2.2.2.2.2.2.2.2.2.2.1, g.2.2.2.2.2.2.2.2.2.2.2.1⟩⟩ g.2.2.2.2.2.2.2.2.2.2.2.2.1).2], fun _ => none⟩
theorem sp15_ok : sp15.Ok Tryz.prog 15 false :=
 ⟨fun g K X hp h => F15_ok g K X (F15_is (m := ⟨g.1, g.2.1, g.2.2.1, g.2.2.2.1, g.2.2.2.2.1, g.2.2.2.2.2.1, g.2.2.2.2.2.2.1, g.2.2.2.2.2.2.2.1, ⟨g.2.2.2.2.2.2.2.2.1, g.2.2.2.2.2.2.2.2.2.1, g.2.2.2.2.2.2.2.2.2.2.1, g.2.2.2.2.2.2.2.2.2.2.2.1⟩⟩) (l := g.2.2.2.2.2.2.2.2.2.2.2.2.1) hp h), fun _ _ _ => rfl, fun _ => rfl, fun h => (by cases h)⟩
end Go.Proofs.YtoclmkbjgmgekaaGreatDoor
namespace Go.Proofs.YtoclmkbjgmgekaaGreatDoor
open Go.RowKit
attribute [local irreducible] dfun dround
def H6 : List (Nat × Hint) := [(5, ⟨[((2, []), none), ((4, []), none)], [(2, .pt 0 0), (4, .pt 1 0), (6, .leaf)], [.cells [.leaf, .leaf, .nil, .nil, .nil, .nil, .leaf, .leaf, .leaf, .nil, .nil, .nil], .cells [.leaf, .leaf, .leaf]], [.int .i64, .int .i64, .str, .int .i64, .str, .int .i64, .bool, .str, .sl .sexp]⟩)]
def J6 : List (Nat × Hint) := [(3, ⟨[((2, []), none), ((4, []), none)], [(2, .pt 0 0), (4, .pt 1 0), (33, .leaf)], [.cells [.leaf, .leaf, .nil, .nil, .nil, .nil, .leaf, .leaf, .leaf, .nil, .nil, .nil], .cells [.leaf, .leaf, .leaf]], [.bool, .int .i64, .str, .int .i64, .str, .int .i64, .bool, .str, .sl .sexp]⟩), (10, ⟨[((2, []), none), ((7, []), none)], [(2, .pt 0 0), (7, .pt 1 0), (63, .leaf)], [.cells [.leaf, .leaf, .nil, .nil, .nil, .nil, .leaf, .leaf, .leaf, .nil, .nil, .nil], .cells [.leaf, .leaf, .leaf, .leaf, .leaf, .leaf, .leaf, .leaf, .leaf, .leaf, .leaf, .leaf]], [.bool, .int .i64, .str, .int .i64, .str, .int .i64, .int .i64, .str, .sl .dig, .sl .rng, .sl .str, .sl .str, .int .i64, .str, .int .i64, .sl .dig, .sl .dig, .sl .dig]⟩)]
abbrev S6 : List Sh := [.leaf]
abbrev L6 : List Lf := [.str]
def F6_J9 (K : Kn) (t_8 : Bool) (t1_8 : Int) (t2_8 : ByteArray) (t7_8 : Int) (t8_8 : ByteArray) (t9_8 m1_8 : Int) (m2_8 : ByteArray) (m3_8 : List Dig) (m4_8 : List Rng) (m5_8 : List ByteArray) (m6_8 : List ByteArray) (m7_8 : Int) (m8_8 : ByteArray) (m9_8 : Int) (m10_8 : List Dig) (m11_8 : List Dig) (m12_8 : List Dig) : Prop :=
 bif t_8 then (
  K (.tu [.ag [.int .i64 0, .str (⟨#[]⟩ : ByteArray), .nil, .nil, .nil, .nil, .int .i64 0, .str (⟨#[]⟩ : ByteArray), .int .i64 0, .nil, .nil, .nil], .int .i64 12]) [])
 else (
  K (.tu [.ag [.int .i64 m1_8, .str m2_8, .sl false .dig m3_8, .sl false .rng m4_8, .sl false .str m5_8, .sl false .str m6_8, .int .i64 m7_8, .str m8_8, .int .i64 m9_8, .sl false .dig m10_8, .sl false .dig m11_8, .sl false .dig m12_8], .int .i64 0]) [])
def F6_B5 (K : Kn) (W5 : prodL [.int .i64, .int .i64, .str, .int .i64, .str, .int .i64, .bool, .str, .sl .sexp] -> Prop) (k_4 t1_4 : Int) (t2_4 : ByteArray) (t7_4 : Int) (t8_4 : ByteArray) (t9_4 : Int) (x1_4 : Bool) (x2_4 : ByteArray) (x3_4 : List Sx) : Prop :=
 bif decide (k_4 < 8) then (
  At x3_4 0 fun u6 =>
 True /\
 0 <= k_4 /\ k_4.toNat < 8 /\ atI [(⟨#[]⟩ : ByteArray), (⟨#[114, 97, 110, 103, 101, 115]⟩ : ByteArray), (⟨#[119, 97, 110, 116]⟩ : ByteArray), (⟨#[112, 97, 116, 99, 104, 101, 115]⟩ : ByteArray), (⟨#[100, 111, 110, 101]⟩ : ByteArray), (⟨#[112, 117, 115, 104]⟩ : ByteArray), (⟨#[114, 101, 112, 108, 121]⟩ : ByteArray), (⟨#[112, 97, 116, 104, 115]⟩ : ByteArray)] k_4.toNat fun s7 =>
 bif !decide (u6.atom = s7) then (
  W5 (IntKind.i64.wrap (k_4 + 1), t1_4, t2_4, t7_4, t8_4, t9_4, x1_4, x2_4, x3_4, ()))
 else (
  (0 : Int) <= 1 /\ 1 <= (x3_4.length : Int) /\
 sp15.pre (k_4, (⟨#[]⟩ : ByteArray), [], [], [], [], 0, (⟨#[]⟩ : ByteArray), 0, [], [], [], x3_4.drop ((1 : Int).toNat), ()) /\
 bif !((rfF (⟨k_4, (⟨#[]⟩ : ByteArray), [], [], [], [], 0, (⟨#[]⟩ : ByteArray), ⟨0, [], [], []⟩⟩ : Msg) (x3_4.drop ((1 : Int).toNat))).2) then (
  F6_J9 K true t1_4 t2_4 t7_4 t8_4 t9_4 (((rfF (⟨k_4, (⟨#[]⟩ : ByteArray), [], [], [], [], 0, (⟨#[]⟩ : ByteArray), ⟨0, [], [], []⟩⟩ : Msg) (x3_4.drop ((1 : Int).toNat))).1).kind) (((rfF (⟨k_4, (⟨#[]⟩ : ByteArray), [], [], [], [], 0, (⟨#[]⟩ : ByteArray), ⟨0, [], [], []⟩⟩ : Msg) (x3_4.drop ((1 : Int).toNat))).1).name) (((rfF (⟨k_4, (⟨#[]⟩ : ByteArray), [], [], [], [], 0, (⟨#[]⟩ : ByteArray), ⟨0, [], [], []⟩⟩ : Msg) (x3_4.drop ((1 : Int).toNat))).1).ids) (((rfF (⟨k_4, (⟨#[]⟩ : ByteArray), [], [], [], [], 0, (⟨#[]⟩ : ByteArray), ⟨0, [], [], []⟩⟩ : Msg) (x3_4.drop ((1 : Int).toNat))).1).ranges) (((rfF (⟨k_4, (⟨#[]⟩ : ByteArray), [], [], [], [], 0, (⟨#[]⟩ : ByteArray), ⟨0, [], [], []⟩⟩ : Msg) (x3_4.drop ((1 : Int).toNat))).1).patches) (((rfF (⟨k_4, (⟨#[]⟩ : ByteArray), [], [], [], [], 0, (⟨#[]⟩ : ByteArray), ⟨0, [], [], []⟩⟩ : Msg) (x3_4.drop ((1 : Int).toNat))).1).paths) (((rfF (⟨k_4, (⟨#[]⟩ : ByteArray), [], [], [], [], 0, (⟨#[]⟩ : ByteArray), ⟨0, [], [], []⟩⟩ : Msg) (x3_4.drop ((1 : Int).toNat))).1).code) (((rfF (⟨k_4, (⟨#[]⟩ : ByteArray), [], [], [], [], 0, (⟨#[]⟩ : ByteArray), ⟨0, [], [], []⟩⟩ : Msg) (x3_4.drop ((1 : Int).toNat))).1).text) (((rfF (⟨k_4, (⟨#[]⟩ : ByteArray), [], [], [], [], 0, (⟨#[]⟩ : ByteArray), ⟨0, [], [], []⟩⟩ : Msg) (x3_4.drop ((1 : Int).toNat))).1).sig.index) (((rfF (⟨k_4, (⟨#[]⟩ : ByteArray), [], [], [], [], 0, (⟨#[]⟩ : ByteArray), ⟨0, [], [], []⟩⟩ : Msg) (x3_4.drop ((1 : Int).toNat))).1).sig.revealed) (((rfF (⟨k_4, (⟨#[]⟩ : ByteArray), [], [], [], [], 0, (⟨#[]⟩ : ByteArray), ⟨0, [], [], []⟩⟩ : Msg) (x3_4.drop ((1 : Int).toNat))).1).sig.others) (((rfF (⟨k_4, (⟨#[]⟩ : ByteArray), [], [], [], [], 0, (⟨#[]⟩ : ByteArray), ⟨0, [], [], []⟩⟩ : Msg) (x3_4.drop ((1 : Int).toNat))).1).sig.path))
 else (
  sp16.pre (((rfF (⟨k_4, (⟨#[]⟩ : ByteArray), [], [], [], [], 0, (⟨#[]⟩ : ByteArray), ⟨0, [], [], []⟩⟩ : Msg) (x3_4.drop ((1 : Int).toNat))).1).kind, ((rfF (⟨k_4, (⟨#[]⟩ : ByteArray), [], [], [], [], 0, (⟨#[]⟩ : ByteArray), ⟨0, [], [], []⟩⟩ : Msg) (x3_4.drop ((1 : Int).toNat))).1).name, ((rfF (⟨k_4, (⟨#[]⟩ : ByteArray), [], [], [], [], 0, (⟨#[]⟩ : ByteArray), ⟨0, [], [], []⟩⟩ : Msg) (x3_4.drop ((1 : Int).toNat))).1).ids, ((rfF (⟨k_4, (⟨#[]⟩ : ByteArray), [], [], [], [], 0, (⟨#[]⟩ : ByteArray), ⟨0, [], [], []⟩⟩ : Msg) (x3_4.drop ((1 : Int).toNat))).1).ranges, ((rfF (⟨k_4, (⟨#[]⟩ : ByteArray), [], [], [], [], 0, (⟨#[]⟩ : ByteArray), ⟨0, [], [], []⟩⟩ : Msg) (x3_4.drop ((1 : Int).toNat))).1).patches, ((rfF (⟨k_4, (⟨#[]⟩ : ByteArray), [], [], [], [], 0, (⟨#[]⟩ : ByteArray), ⟨0, [], [], []⟩⟩ : Msg) (x3_4.drop ((1 : Int).toNat))).1).paths, ((rfF (⟨k_4, (⟨#[]⟩ : ByteArray), [], [], [], [], 0, (⟨#[]⟩ : ByteArray), ⟨0, [], [], []⟩⟩ : Msg) (x3_4.drop ((1 : Int).toNat))).1).code, ((rfF (⟨k_4, (⟨#[]⟩ : ByteArray), [], [], [], [], 0, (⟨#[]⟩ : ByteArray), ⟨0, [], [], []⟩⟩ : Msg) (x3_4.drop ((1 : Int).toNat))).1).text, ((rfF (⟨k_4, (⟨#[]⟩ : ByteArray), [], [], [], [], 0, (⟨#[]⟩ : ByteArray), ⟨0, [], [], []⟩⟩ : Msg) (x3_4.drop ((1 : Int).toNat))).1).sig.index, ((rfF (⟨k_4, (⟨#[]⟩ : ByteArray), [], [], [], [], 0, (⟨#[]⟩ : ByteArray), ⟨0, [], [], []⟩⟩ : Msg) (x3_4.drop ((1 : Int).toNat))).1).sig.revealed, ((rfF (⟨k_4, (⟨#[]⟩ : ByteArray), [], [], [], [], 0, (⟨#[]⟩ : ByteArray), ⟨0, [], [], []⟩⟩ : Msg) (x3_4.drop ((1 : Int).toNat))).1).sig.others, ((rfF (⟨k_4, (⟨#[]⟩ : ByteArray), [], [], [], [], 0, (⟨#[]⟩ : ByteArray), ⟨0, [], [], []⟩⟩ : Msg) (x3_4.drop ((1 : Int).toNat))).1).sig.path, ()) /\
  F6_J9 K (!decide ((chk ((rfF (⟨k_4, (⟨#[]⟩ : ByteArray), [], [], [], [], 0, (⟨#[]⟩ : ByteArray), ⟨0, [], [], []⟩⟩ : Msg) (x3_4.drop ((1 : Int).toNat))).1)).2 = 0)) t1_4 t2_4 t7_4 t8_4 t9_4 (((rfF (⟨k_4, (⟨#[]⟩ : ByteArray), [], [], [], [], 0, (⟨#[]⟩ : ByteArray), ⟨0, [], [], []⟩⟩ : Msg) (x3_4.drop ((1 : Int).toNat))).1).kind) (((rfF (⟨k_4, (⟨#[]⟩ : ByteArray), [], [], [], [], 0, (⟨#[]⟩ : ByteArray), ⟨0, [], [], []⟩⟩ : Msg) (x3_4.drop ((1 : Int).toNat))).1).name) (((rfF (⟨k_4, (⟨#[]⟩ : ByteArray), [], [], [], [], 0, (⟨#[]⟩ : ByteArray), ⟨0, [], [], []⟩⟩ : Msg) (x3_4.drop ((1 : Int).toNat))).1).ids) (((rfF (⟨k_4, (⟨#[]⟩ : ByteArray), [], [], [], [], 0, (⟨#[]⟩ : ByteArray), ⟨0, [], [], []⟩⟩ : Msg) (x3_4.drop ((1 : Int).toNat))).1).ranges) (((rfF (⟨k_4, (⟨#[]⟩ : ByteArray), [], [], [], [], 0, (⟨#[]⟩ : ByteArray), ⟨0, [], [], []⟩⟩ : Msg) (x3_4.drop ((1 : Int).toNat))).1).patches) (((rfF (⟨k_4, (⟨#[]⟩ : ByteArray), [], [], [], [], 0, (⟨#[]⟩ : ByteArray), ⟨0, [], [], []⟩⟩ : Msg) (x3_4.drop ((1 : Int).toNat))).1).paths) (((rfF (⟨k_4, (⟨#[]⟩ : ByteArray), [], [], [], [], 0, (⟨#[]⟩ : ByteArray), ⟨0, [], [], []⟩⟩ : Msg) (x3_4.drop ((1 : Int).toNat))).1).code) (((rfF (⟨k_4, (⟨#[]⟩ : ByteArray), [], [], [], [], 0, (⟨#[]⟩ : ByteArray), ⟨0, [], [], []⟩⟩ : Msg) (x3_4.drop ((1 : Int).toNat))).1).text) (((rfF (⟨k_4, (⟨#[]⟩ : ByteArray), [], [], [], [], 0, (⟨#[]⟩ : ByteArray), ⟨0, [], [], []⟩⟩ : Msg) (x3_4.drop ((1 : Int).toNat))).1).sig.index) (((rfF (⟨k_4, (⟨#[]⟩ : ByteArray), [], [], [], [], 0, (⟨#[]⟩ : ByteArray), ⟨0, [], [], []⟩⟩ : Msg) (x3_4.drop ((1 : Int).toNat))).1).sig.revealed) (((rfF (⟨k_4, (⟨#[]⟩ : ByteArray), [], [], [], [], 0, (⟨#[]⟩ : ByteArray), ⟨0, [], [], []⟩⟩ : Msg) (x3_4.drop ((1 : Int).toNat))).1).sig.others) (((rfF (⟨k_4, (⟨#[]⟩ : ByteArray), [], [], [], [], 0, (⟨#[]⟩ : ByteArray), ⟨0, [], [], []⟩⟩ : Msg) (x3_4.drop ((1 : Int).toNat))).1).sig.path))))
 else (
  K (.tu [.ag [.int .i64 0, .str (⟨#[]⟩ : ByteArray), .nil, .nil, .nil, .nil, .int .i64 0, .str (⟨#[]⟩ : ByteArray), .int .i64 0, .nil, .nil, .nil], .int .i64 12]) [])
def F6_L5 (K : Kn) (g : prodL [.int .i64, .int .i64, .str, .int .i64, .str, .int .i64, .bool, .str, .sl .sexp]) : Prop :=
 LoopW (γ := prodL [.int .i64, .int .i64, .str, .int .i64, .str, .int .i64, .bool, .str, .sl .sexp]) (fun V y => F6_B5 K V y.1 y.2.1 y.2.2.1 y.2.2.2.1 y.2.2.2.2.1 y.2.2.2.2.2.1 y.2.2.2.2.2.2.1 y.2.2.2.2.2.2.2.1 y.2.2.2.2.2.2.2.2.1) g
def F6_J3 (K : Kn) (t_2 : Bool) (t1_2 : Int) (t2_2 : ByteArray) (t7_2 : Int) (t8_2 : ByteArray) (t9_2 : Int) (x1_2 : Bool) (x2_2 : ByteArray) (x3_2 : List Sx) : Prop :=
 bif t_2 then (
  K (.tu [.ag [.int .i64 0, .str (⟨#[]⟩ : ByteArray), .nil, .nil, .nil, .nil, .int .i64 0, .str (⟨#[]⟩ : ByteArray), .int .i64 0, .nil, .nil, .nil], .int .i64 12]) [])
 else (
  F6_L5 K (1, t1_2, t2_2, t7_2, t8_2, t9_2, x1_2, x2_2, x3_2, ()))
def F6 (g : prodL L6) (K : Kn) : Prop :=
 sp13.pre (g.1, ()) /\
 bif !decide ((dcT g.1).2 = 0) then (
  F6_J3 K true 0 (⟨#[]⟩ : ByteArray) 0 (⟨#[]⟩ : ByteArray) 0 (((dcT g.1).1).isList) (((dcT g.1).1).atom) (((dcT g.1).1).list))
 else (
  bif !(((dcT g.1).1).isList) then (
   F6_J3 K true 0 (⟨#[]⟩ : ByteArray) 0 (⟨#[]⟩ : ByteArray) 0 (((dcT g.1).1).isList) (((dcT g.1).1).atom) (((dcT g.1).1).list))
  else (
   bif decide ((((((dcT g.1).1).list).length : Nat) : Int) = 0) then (
    F6_J3 K true 0 (⟨#[]⟩ : ByteArray) 0 (⟨#[]⟩ : ByteArray) 0 (((dcT g.1).1).isList) (((dcT g.1).1).atom) (((dcT g.1).1).list))
   else (
    At (((dcT g.1).1).list) 0 fun u1 =>
    F6_J3 K u1.isList 0 (⟨#[]⟩ : ByteArray) 0 (⟨#[]⟩ : ByteArray) 0 (((dcT g.1).1).isList) (((dcT g.1).1).atom) (((dcT g.1).1).list))))
theorem F6_eq (g : prodL L6) (K X : Kn) : F6 g K = dfun D (gamX [] [(13, false, sp13), (14, false, sp14), (15, false, sp15), (16, true, sp16)]) (isRaw []) H6 J6 67 [.cell 2 30, .tmp 3] (codeOf Tryz.f6) (argsT S6 L6 g) [] (settle0 K) X := by kernel_rfl
theorem F6_ok (g : prodL L6) (K X : Kn) (h : F6 g K) : FCalls Tryz.prog 6 (argsT S6 L6 g) [] K X :=
 FCalls.settle0 (dfun_sound D_ok (gmX (gmc sp13_ok (gmc sp14_ok (gmc sp15_ok (gmc sp16_ok gm0))))) gamX_det rfl Tryz.func6 (c := codeOf Tryz.f6) rfl Tryz.ntmps6 Tryz.results6 (by unfold enters; rw [Tryz.func6]; kernel_rfl) (Nat.le_of_ble_eq_true (by kernel_rfl)) (c0 := 0) (Eq.mp (F6_eq g K X) h))
end Go.Proofs.YtoclmkbjgmgekaaGreatDoor
namespace Go.Proofs.YtoclmkbjgmgekaaGreatDoor
open Go.RowKit
theorem J9_is {K : Kn} {b : Bool} {m : Msg} (h : KD K (if b = true then (mz, 12) else (m, 0))) : F6_J9 (wkK K) b 0 ⟨#[]⟩ 0 ⟨#[]⟩ 0 m.kind m.name m.ids m.ranges m.patches m.paths m.code m.text m.sig.index m.sig.revealed m.sig.others m.sig.path := by
 unfold F6_J9
 cases b with
 | true => exact wkK_up [.dig, .rng, .str, .str, .dig, .dig, .dig] h
 | false => exact wkK.same h
theorem word6_is {K : Kn} {r : Msg × Bool} (hr : r.2 = true -> msgP r.1) (h : KD K (if r.2 = true /\ (chk r.1).2 = 0 then (r.1, 0) else (mz, 12))) :
  bif !r.2 then F6_J9 (wkK K) true 0 ⟨#[]⟩ 0 ⟨#[]⟩ 0 r.1.kind r.1.name r.1.ids r.1.ranges r.1.patches r.1.paths r.1.code r.1.text r.1.sig.index r.1.sig.revealed r.1.sig.others r.1.sig.path else (sp16.pre (r.1.kind, r.1.name, r.1.ids, r.1.ranges, r.1.patches, r.1.paths, r.1.code, r.1.text, r.1.sig.index, r.1.sig.revealed, r.1.sig.others, r.1.sig.path, ()) /\ F6_J9 (wkK K) (!decide ((chk r.1).2 = 0)) 0 ⟨#[]⟩ 0 ⟨#[]⟩ 0 r.1.kind r.1.name r.1.ids r.1.ranges r.1.patches r.1.paths r.1.code r.1.text r.1.sig.index r.1.sig.revealed r.1.sig.others r.1.sig.path) := by
 cases c : r.2 with
 | false =>
  rw [if_neg (fun e => by rw [c] at e; simp at e)] at h
  exact J9_is (b := true) (m := r.1) (by rw [if_pos rfl]; exact h)
 | true =>
  refine ⟨hr c, ?_⟩
  by_cases c2 : (chk r.1).2 = 0
  . rw [if_pos ⟨c, c2⟩] at h
    rw [decide_eq_true c2]
    exact J9_is (b := false) (m := r.1) (by rw [if_neg (by simp)]; exact h)
  . rw [if_neg (fun e => c2 e.2)] at h
    rw [decide_eq_false c2]
    exact J9_is (b := true) (m := r.1) (by rw [if_pos rfl]; exact h)
theorem word_at {n : Nat} (h : n < 8) : words8[n]? = some (wordN (n : Int)) := by
 have : n = 0 ∨ n = 1 ∨ n = 2 ∨ n = 3 ∨ n = 4 ∨ n = 5 ∨ n = 6 ∨ n = 7 := by omega
 rcases this with rfl | rfl | rfl | rfl | rfl | rfl | rfl | rfl <;> rfl
theorem kind_none8 {a : ByteArray} (h : ∀ n : Nat, 1 <= n -> n < 8 -> a ≠ wordN (n : Int)) : kindW a = 0 := by
 unfold kindW
 rw [if_neg (show a ≠ wordN 1 from h 1 (by omega) (by omega)), if_neg (show a ≠ wordN 2 from h 2 (by omega) (by omega)), if_neg (show a ≠ wordN 3 from h 3 (by omega) (by omega)), if_neg (show a ≠ wordN 4 from h 4 (by omega) (by omega)), if_neg (show a ≠ wordN 5 from h 5 (by omega) (by omega)), if_neg (show a ≠ wordN 6 from h 6 (by omega) (by omega)), if_neg (show a ≠ wordN 7 from h 7 (by omega) (by omega))]
def rfI (b : Bool) (at' : ByteArray) (x : Sx) (l : List Sx) (g : prodL [.int .i64, .int .i64, .str, .int .i64, .str, .int .i64, .bool, .str, .sl .sexp]) : Prop :=
 ∃ n : Nat, g = ((n : Int), 0, ⟨#[]⟩, 0, ⟨#[]⟩, 0, b, at', x :: l, ()) /\ 1 <= n /\ n <= 8 /\ ∀ j : Nat, 1 <= j -> j < n -> x.atom ≠ wordN (j : Int)
theorem F6_L5_is {K : Kn} {b : Bool} {at' : ByteArray} {x : Sx} {l : List Sx} (hb : bkSs l <= 1000000) (h : KD K (if kindW x.atom ≠ 0 /\ (rfF (kindM (kindW x.atom)) l).2 = true /\ (chk (rfF (kindM (kindW x.atom)) l).1).2 = 0 then ((rfF (kindM (kindW x.atom)) l).1, 0) else (mz, 12))) :
  F6_L5 (wkK K) (1, 0, ⟨#[]⟩, 0, ⟨#[]⟩, 0, b, at', x :: l, ()) := by
 unfold F6_L5
 refine LoopW.of (rfI b at' x l) (fun g => (8 - g.1).toNat) ?_ ⟨1, rfl, by omega, by omega, fun j h1 h2 => by omega⟩
 rintro g ⟨n, rfl, n1, n8, i1⟩ W hW
 show F6_B5 (wkK K) W (n : Int) 0 ⟨#[]⟩ 0 ⟨#[]⟩ 0 b at' (x :: l)
 unfold F6_B5
 by_cases hn : n < 8
 . rw [decide_eq_true (show (n : Int) < 8 by omega), cond_true]
   refine ⟨Int.le_refl 0, x, rfl, trivial, by omega, by omega, wordN (n : Int), by rw [Int.toNat_natCast]; exact word_at hn, ?_⟩
   show bif !decide (x.atom = wordN (n : Int)) then _ else _
   by_cases c : x.atom = wordN (n : Int)
   . rw [decide_eq_true c, Bool.not_true, cond_false]
     have hk : kindW x.atom = (n : Int) := by rw [c]; exact kind_word (by omega)
     rw [hk] at h
     have hn0 : (n : Int) ≠ 0 := by omega
     have hbl : bkSs l <= lim := by unfold lim; omega
     have h1 : (1 : Int) <= ((x :: l).length : Int) := by rw [List.length_cons]; omega
     have hm := rfF_msgP (k := (n : Int)) (l := l) (by omega) hb
     have : ((n : Int) ≠ 0 /\ (rfF (kindM n) l).2 = true /\ (chk (rfF (kindM n) l).1).2 = 0) ↔ ((rfF (kindM n) l).2 = true /\ (chk (rfF (kindM n) l).1).2 = 0) := ⟨fun e => e.2, fun e => ⟨hn0, e⟩⟩
     simp only [this] at h
     exact ⟨by decide, h1, hbl, word6_is (r := rfF (kindM n) l) hm h⟩
   . rw [decide_eq_false c, Bool.not_false, cond_true]
     have e : IntKind.i64.wrap ((n : Int) + 1) = ((n + 1 : Nat) : Int) := wrapS (N := 8) hn (by omega)
     refine hW _ ⟨n + 1, by rw [e], by omega, by omega, fun j h1 h2 => ?_⟩ ?_
     . by_cases hj : j = n
       . subst hj; exact c
       . exact i1 j h1 (by omega)
     . show (8 - IntKind.i64.wrap ((n : Int) + 1)).toNat < (8 - (n : Int)).toNat
       rw [e]; omega
 . rw [decide_eq_false (show ¬ (n : Int) < 8 by omega), cond_false]
   have hk : kindW x.atom = 0 := kind_none8 fun j h1 h2 => i1 j h1 (by omega)
   rw [if_neg (fun e => e.1 hk)] at h
   exact wkK_up [.dig, .rng, .str, .str, .dig, .dig, .dig] h
theorem J3_none {K : Kn} {b : Bool} {a : ByteArray} {l : List Sx} (h : KD K (mz, 12)) : F6_J3 (wkK K) true 0 ⟨#[]⟩ 0 ⟨#[]⟩ 0 b a l := by
 unfold F6_J3
 rw [cond_true]
 exact wkK_up [.dig, .rng, .str, .str, .dig, .dig, .dig] h
theorem F6_is {s : ByteArray} {K : Kn} (hs : s.size <= 70000) (h : KD K (rfT s)) : F6 (s, ()) (wkK K) := by
 have hk := dcT_bk s
 unfold F6
 refine ⟨by show s.size <= 2147483648; omega, ?_⟩
 dsimp only
 unfold rfT rfX at h
 generalize dcT s = d at h hk ⊢
 obtain ⟨x, e⟩ := d
 dsimp only at h hk ⊢
 by_cases ce : e = 0
 . subst ce
   rw [decide_eq_true rfl, Bool.not_true, cond_false]
   rw [if_pos rfl] at h
   obtain ⟨b, a, l⟩ := x
   dsimp only at h hk ⊢
   cases b with
   | false =>
    rw [Bool.not_false, cond_true]
    exact J3_none h
   | true =>
    rw [Bool.not_true, cond_false]
    cases l with
    | nil =>
     rw [decide_eq_true (by rfl : (([] : List Sx).length : Int) = 0), cond_true]
     exact J3_none h
    | cons y r =>
     rw [decide_eq_false (by rw [List.length_cons]; omega), cond_false]
     refine ⟨Int.le_refl 0, y, rfl, ?_⟩
     dsimp only at h ⊢
     cases c : y.isList with
     | true =>
      rw [if_neg (fun e => by rw [c] at e; simp at e)] at h
      exact J3_none h
     | false =>
      unfold F6_J3
      rw [cond_false]
      refine F6_L5_is ?_ ?_
      . simp only [bkS, bkSs] at hk; omega
      . have : (y.isList = false /\ kindW y.atom ≠ 0 /\ (rfF (kindM (kindW y.atom)) r).2 = true /\ (chk (rfF (kindM (kindW y.atom)) r).1).2 = 0) ↔ (kindW y.atom ≠ 0 /\ (rfF (kindM (kindW y.atom)) r).2 = true /\ (chk (rfF (kindM (kindW y.atom)) r).1).2 = 0) := ⟨fun e => e.2, fun e => ⟨c, e⟩⟩
        simp only [this] at h
        exact h
 . rw [decide_eq_false ce, Bool.not_false, cond_true]
   rw [if_neg ce] at h
   exact J3_none h
def sp6 : Sp := ⟨S6, L6, fun g => g.1.size <= 70000, fun g => .tu [.ag (enc .msg (rfT g.1).1), .int .i64 (rfT g.1).2], fun _ => none⟩
theorem sp6_ok : sp6.Ok Tryz.prog 6 false :=
 ⟨fun g K X hp h => FCalls.weak (F6_ok g (wkK K) X (F6_is hp h)), fun _ _ _ => rfl, fun _ => rfl, fun h => (by cases h)⟩
end Go.Proofs.YtoclmkbjgmgekaaGreatDoor
namespace Go.Proofs.YtoclmkbjgmgekaaGreatDoor
open Go.RowKit
attribute [local irreducible] dfun dround
def H3 : List (Nat × Hint) := []
def J3 : List (Nat × Hint) := []
abbrev S3 : List Sh := [.leaf]
abbrev L3 : List Lf := [.str]
def F3 (g : prodL L3) (K : Kn) : Prop :=
 bif decide (4000 < (g.1.size : Int)) then (
  sp4.pre (()) /\
  K (.bool true) [])
 else (
  sp5.pre (g.1, ()) /\
 sp6.pre (g.1, ()) /\
 sp7.pre (((decT g.1).1).kind, ((decT g.1).1).name, ((decT g.1).1).ids, ((decT g.1).1).ranges, ((decT g.1).1).patches, ((decT g.1).1).paths, ((decT g.1).1).code, ((decT g.1).1).text, ((decT g.1).1).sig.index, ((decT g.1).1).sig.revealed, ((decT g.1).1).sig.others, ((decT g.1).1).sig.path, ((rfT g.1).1).kind, ((rfT g.1).1).name, ((rfT g.1).1).ids, ((rfT g.1).1).ranges, ((rfT g.1).1).patches, ((rfT g.1).1).paths, ((rfT g.1).1).code, ((rfT g.1).1).text, ((rfT g.1).1).sig.index, ((rfT g.1).1).sig.revealed, ((rfT g.1).1).sig.others, ((rfT g.1).1).sig.path, ()) /\
 bif decide (((decT g.1).1) = ((rfT g.1).1)) then (
  bif decide ((decT g.1).2 = (rfT g.1).2) then (
   sp4.pre (()) /\
   K (.bool true) [])
  else (
   K (.bool false) []))
 else (
  K (.bool false) []))
theorem F3_eq (g : prodL L3) (K X : Kn) : F3 g K = dfun D (gamX [] [(4, true, sp4), (5, false, sp5), (6, false, sp6), (7, true, sp7)]) (isRaw []) H3 J3 32 [.tmp 2] (codeOf Tryz.f3) (argsT S3 L3 g) [] (settle0 K) X := by kernel_rfl
theorem F3_ok (g : prodL L3) (K X : Kn) (h : F3 g K) : FCalls Tryz.prog 3 (argsT S3 L3 g) [] K X :=
 FCalls.settle0 (dfun_sound D_ok (gmX (gmc sp4_ok (gmc sp5_ok (gmc sp6_ok (gmc sp7_ok gm0))))) gamX_det rfl Tryz.func3 (c := codeOf Tryz.f3) rfl Tryz.ntmps3 Tryz.results3 (by unfold enters; rw [Tryz.func3]; kernel_rfl) (Nat.le_of_ble_eq_true (by kernel_rfl)) (c0 := 0) (Eq.mp (F3_eq g K X) h))
end Go.Proofs.YtoclmkbjgmgekaaGreatDoor
namespace Go.Proofs.YtoclmkbjgmgekaaGreatDoor
open Go.RowKit
theorem F3_is (s : ByteArray) : F3 (s, ()) KT := by
 unfold F3
 dsimp only
 by_cases hs : (4000 : Int) < (s.size : Int)
 . rw [decide_eq_true hs, cond_true]
   exact ⟨trivial, rfl⟩
 rw [decide_eq_false hs, cond_false]
 rw [rfT_eq (by omega)]
 refine ⟨by show s.size <= 70000; omega, by show s.size <= 70000; omega, ?_⟩
 rw [decide_eq_true rfl, decide_eq_true rfl]
 refine ⟨?_, trivial, rfl⟩
 rcases decT_cases s (by omega) with ⟨_, h2, _⟩ | h
 . exact h2.2
 . rw [h]; exact bk_mz
theorem protoDecode.calls (g : prodL L3) (hw : wfL L3 g) (hb : bkL L3 g <= 1048576) : FCalls Tryz.prog 3 (argsT S3 L3 g) [] (fun r _ => r = .bool true) fun _ _ => False :=
 F3_ok g KT _ (F3_is g.1)
end Go.Proofs.YtoclmkbjgmgekaaGreatDoor
namespace Go.Proofs.YtoclmkbjgmgekaaGreatDoor
open Go.RowKit Go.ChangeShapes
theorem kinds_ok : KindsOk D := by
 have key : D.all (fun p => match p.2.el with | some e => decide (flatL D 8 p.1 = some (lvs e)) | none => true) = true := by kernel_rfl
 intro t te e ht he
 have hm : ∀ (l : TD), tyOf l t = some te -> (t, te) ∈ l := by
  intro l
  induction l with
  | nil => intro h; cases h
  | cons p r ih =>
   intro h
   obtain ⟨j, x⟩ := p
   simp only [tyOf] at h
   split at h
   . rename_i e; subst e; injection h with h; subst h; exact List.mem_cons_self
   . exact List.mem_cons_of_mem _ (ih h)
 have := List.all_eq_true.1 key _ (hm D ht)
 simp only [he] at this
 exact ⟨8, of_decide_eq_true this⟩
theorem the_kids : Kids Tryz.prog (· < Tryz.prog.types.size) := kids_rows (by kernel_rfl) (by kernel_rfl)
theorem the_full : ∀ t e, t < Tryz.prog.types.size -> Tryz.prog.underlying t = some (.slice e) -> 0 < Tryz.prog.cellsOf e := slices_full_of Tryz.prog (by kernel_rfl)
theorem the_knob : ownKnob Tryz.prog.godebug = none := by kernel_rfl
theorem bulk_le {H : Type} {l : List (DataW H)} (hk : Rows.uptoSmall H l = true) : Rows.uptoBulkAll l <= 1048576 := by
 simpa [Rows.uptoSmall] using hk
theorem returns_row {H : Type} {enc : TypeId × Value -> H} {a : Assume} {C : Checked} {os : Os} {f : FuncId} {fn : Func} {s : OpenSpec} {F : Stop.Interp} {conds : List PathCond} {apart fresh handsOn again : Bool} {laid : List (String × DataW Unit)}
  (own : ownKnob C.prog.godebug = none) (started : os.Started) (noInit : C.prog.inits.idxOf? f = none) (hfn : C.prog.funcs[f]? = some fn)
  (witness : ∃ (w : World) (tape : Tape) (i : Input), w.os = os /\ (w.forCall tape i).Shaped C.prog /\ i.vars = [] /\ Input.okWide C.prog (w.forCall tape i) .any w.heap.size f i /\
   s.preRow enc C.prog fn conds apart laid (w.forCall tape i).memory i.args /\ a.holds C.prog (lone (Frame.enter C.prog f i.args .normal) [] (w.forCall tape i)))
  (contract : ∀ (W : World) (base : Nat) (args : Array Value) (ds gs : List (DataW H)) (before : List MemPlace),
   (∀ (j : Nat) t v, fn.params[j]? = some t -> args[j]? = some v -> Value.okWide C.prog W .any base t v) ->
   DataW.Whole enc C.prog fn.params.toList s.vars apart W args.toList ds gs before ->
   (∀ k, s.cond = some k -> k H (ds ++ gs) = true) -> laidMetH C.prog laid W ->
   Calls C.prog f args W fun e W' => ∃ v, e = .returned v /\ (s.at F).post enc C.prog fn apart fresh handsOn again W args v W') :
  ReturnsInHanded a C os f .any (s.preRow enc C.prog fn conds apart laid) ((s.at F).post enc C.prog fn apart fresh handsOn again) := by
 refine returnsInHanded_of_calls own started noInit witness ?_
 intro w tape i _ _ _ hok hpre hholds
 obtain ⟨_, _, _, fn', hfn', _, _, _, _, hval⟩ := hok
 have e : fn' = fn := Option.some.inj (hfn'.symm.trans hfn)
 subst e
 obtain ⟨⟨hp, hl⟩, _⟩ := hpre
 obtain ⟨ds, gs, before, hw, hc, hkk⟩ := OpenSpec.pre_parts hp
 have hw' := DataW.Whole.of_heap (w' := w.forCall tape i) (by rfl) hw
 refine (contract (w.forCall tape i) w.heap.size i.args ds gs before hval hw' hkk (hl.of_heap (by rfl))).mono fun e W' ⟨v, he, hp⟩ => ?_
 subst he
 exact ChangeSpec.post_blind hp
def laidAll : List (String × DataW Unit) := Rows.protoDecodeUptoRow.laid
theorem door_met (os : Os) (args : Array Value) : laidMetH Tryz.prog laidAll ((World.doorLaid Tryz.prog 400 os).forCall (fun _ _ => 0) ⟨#[], args, []⟩).memory :=
 laidMetH_of_parts3 (fuel := 8) (laidMet_of_run' 8 (by kernel_rfl) (by kernel_rfl)) (by kernel_rfl) (by kernel_rfl)
theorem gPow : Tryz.prog.globalNamed "internal/strconv.uint64pow10" = some 0 := by kernel_rfl
theorem gRng : Tryz.prog.globalNamed "strconv.ErrRange" = some 2 := by kernel_rfl
theorem tPow : (Tryz.prog.globals[0]?).map (·.type) = some 161 := by kernel_rfl
theorem tRng : (Tryz.prog.globals[2]?).map (·.type) = some 122 := by kernel_rfl
theorem var_block {P : Program} {w : World} {n : String} {g : Nat} {cs : Array Value} (hg : P.globalNamed n = some g) (h : w.var? P n = some cs) : ∃ E fr, w.heap[g]? = some (.cells cs E fr) := by
 simp only [World.var?, hg, Option.bind_some] at h
 split at h
 . rename_i c E fr e
   simp only [Option.some.injEq] at h
   subst h
   exact ⟨_, _, e⟩
 . cases h
theorem laid_rd {W : World} (h : laidMetH Tryz.prog laidAll W) : LaidG (RdB W) := by
 rw [MakeChecks.laidMetH_plain _ _ _ (by kernel_rfl)] at h
 obtain ⟨ps, ⟨_, _, _, _, _, _, _, _, _, _, ⟨_, _, _, _, _, _, _, _, _, _, ⟨g2, t2, cs2, f2, p2, q2, hg2, ht2, hv2, hd2, ⟨g3, t3, cs3, f3, p3, q3, hg3, ht3, hv3, hd3, _⟩, _⟩, _⟩, _⟩, _, _⟩ := h
 obtain rfl := Option.some.inj (gPow.symm.trans hg2)
 obtain rfl := Option.some.inj (gRng.symm.trans hg3)
 obtain rfl := Option.some.inj (tPow.symm.trans ht2)
 obtain rfl := Option.some.inj (tRng.symm.trans ht3)
 obtain ⟨E2, fr2, b2⟩ := var_block hg2 hv2
 obtain ⟨E3, fr3, b3⟩ := var_block hg3 hv3
 refine ⟨?_, ?_⟩
 . obtain ⟨xs, m, rfl, hx1, hlen, hn, hel⟩ := DataW.trod_array Tryz.underlying161 hd2
   have c1 : Tryz.prog.cellsOf 145 = 1 := by kernel_rfl
   have c2 : Tryz.prog.cellsOf 161 = 20 := by kernel_rfl
   rw [c2] at hlen
   simp only [Prod.mk.injEq] at hx1
   have hl : (.agg (xs.map (·.1)) : DataW Unit) = .agg ((List.range 20).map fun i => .lit (.int .u64 ((10 ^ i : Nat) : Int))) := hx1.1.symm.trans (by kernel_rfl)
   injection hl with hl
   have hsz : cs2.size = 20 := by simpa using hlen
   have key : ∀ j, j < 20 -> cs2[j]? = some (.int .u64 ((10 ^ j : Nat) : Int)) := fun j hj => by
    have h1 := hel j hj
    rw [c1, Nat.mul_one] at h1
    obtain ⟨y, hy⟩ : ∃ y, xs[j]? = some y := ⟨xs[j], List.getElem?_eq_getElem (by omega)⟩
    rw [hy] at h1
    obtain ⟨n, e1, e2, _⟩ := DataW.trod_int Tryz.underlying145 h1
    have h2 := congrArg (·[j]?) hl
    simp only [List.getElem?_map, hy, Option.map_some, e2, List.getElem?_range hj] at h2
    simp only [Option.some.injEq, DataW.lit.injEq, Lit.int.injEq, true_and] at h2
    subst h2
    have h3 := congrArg (·[0]?) e1
    simp only [List.getElem?_take, List.getElem?_drop, Nat.add_zero, List.getElem?_cons_zero] at h3
    simpa using h3
   exact ⟨.mk 0 pow10s cs2 E2 fr2 b2 (fun n h => by have := congrArg List.length h; simp [pow10s] at this) (by simp [pow10s, hsz]) (fun j u x hu hx _ => by
    have hj : j < 20 := by have := (List.getElem?_eq_some_iff.1 hu).1; simpa [pow10s] using this
    rw [key j hj] at hx
    simp [pow10s, hj] at hu hx
    subst hu; subst hx
    exact .int _ _), .ex 0 20 cs2 E2 fr2 b2 hsz (by decide)⟩
 . obtain ⟨_, u, v, e, _⟩ := iface_of_trod Tryz.underlying122 hd3
   obtain ⟨l⟩ := cs3
   simp only at e
   subst e
   exact ⟨u, v, .mk 2 _ _ E3 fr3 b3 (fun n h => by simp at h) (by simp) (fun j t x hu hx _ => by
    match j, hu, hx with
    | 0, hu, hx => simp at hu hx; subst hu; subst hx; exact .cst _ rfl
    | j + 1, hu, hx => simp at hu)⟩
theorem door_shaped (os : Os) (args : Array Value) : ((World.doorLaid Tryz.prog 400 os).forCall (fun _ _ => 0) ⟨#[], args, []⟩).Shaped Tryz.prog :=
 World.shaped_of_RefB (by kernel_rfl) (by kernel_rfl)
theorem witness_row {H : Type} {enc : TypeId × Value -> H} {os : Os} {f : FuncId} {fn : Func} {s : OpenSpec} {apart : Bool} (args : Array Value)
  (hok : Input.okWideB Tryz.prog ((World.doorLaid Tryz.prog 400 os).forCall (fun _ _ => 0) ⟨#[], args, []⟩) f ⟨#[], args, []⟩ = true)
  {x : List (DataW H) × List (DataW H) × List MemPlace} (hx : DataW.whole enc Tryz.prog ((World.doorLaid Tryz.prog 400 os).forCall (fun _ _ => 0) ⟨#[], args, []⟩).memory fn.params.toList s.vars apart args.toList 12 = some x)
  (hkk : ∀ k, s.cond = some k -> k H (x.1 ++ x.2.1) = true)
  (hsz : s.bare.sizedB enc Tryz.prog fn apart ((World.doorLaid Tryz.prog 400 os).forCall (fun _ _ => 0) ⟨#[], args, []⟩).memory args 12 = true) :
  ∃ (w : World) (tape : Tape) (i : Input), w.os = os /\ (w.forCall tape i).Shaped Tryz.prog /\ i.vars = [] /\ Input.okWide Tryz.prog (w.forCall tape i) .any w.heap.size f i /\
   s.preRow enc Tryz.prog fn [] apart laidAll (w.forCall tape i).memory i.args /\ ({} : Assume).holds Tryz.prog (lone (Frame.enter Tryz.prog f i.args .normal) [] (w.forCall tape i)) :=
 ⟨World.doorLaid Tryz.prog 400 os, fun _ _ => 0, ⟨#[], args, []⟩, rfl, door_shaped os args, (Input.okWide_of_okWideB (base := 0) hok).1, (Input.okWide_of_okWideB hok).2, OpenSpec.preRow_of_cond 12 hx rfl hkk hsz (door_met os args), by
  simp only [Assume.holds]
  exact ⟨by simp, by simp, fun _ => Modest.zero, by simp, by simp⟩⟩
end Go.Proofs.YtoclmkbjgmgekaaGreatDoor
