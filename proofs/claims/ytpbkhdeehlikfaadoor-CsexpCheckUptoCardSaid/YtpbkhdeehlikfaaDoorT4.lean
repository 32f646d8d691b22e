import Derived.Test.YtpbkhdeehlikfaaDoorT3
/- What functions come to: printed by exf.py. -/
namespace Go.Proofs.YtpbkhdeehlikfaaDoor
set_option linter.unusedVariables false
set_option linter.unusedSimpArgs false
set_option linter.unusedSectionVars false
open Go.RowKit
attribute [local irreducible] dfun dround
/-- quilt/quiltref01.Great -/
def H17 : List (Nat × Hint) := []
def J17 : List (Nat × Hint) := []
abbrev S17 : List Sh := [.ag [.leaf, .leaf, .leaf]]
abbrev L17 : List Lf := [.bool, .str, .sl .sexp]
def F17 (g : prodL L17) (K : Kn) : Prop :=
  sp29.pre (g.1, g.2.1, g.2.2.1, 60, 20, ()) ∧
  bif decide (60 < cnt ⟨g.1, g.2.1, g.2.2.1⟩ 60 20) then (
    K (.bool true) [])
  else (
    sp30.pre (g.1, g.2.1, g.2.2.1, ()) ∧
    K (.bool (lgR ⟨g.1, g.2.1, g.2.2.1⟩)) [])
theorem F17_eq (g : prodL L17) (K X : Kn) : F17 g K = dfun D (gamX [] [(29, true, sp29), (30, true, sp30)]) (isRaw []) H17 J17 10 [.tmp 2] (codeOf Tryd.f17) (argsT S17 L17 g) [] (settle0 K) X := by kernel_rfl
theorem F17_ok (g : prodL L17) (K X : Kn) (h : F17 g K) : FCalls Tryd.prog 17 (argsT S17 L17 g) [] K X :=
  FCalls.settle0 (dfun_sound (Γ := gamX [] [(29, true, sp29), (30, true, sp30)]) (mu := isRaw []) (H := H17) (J := J17) D_ok (gamX_ok (rs := []) (l := [(29, true, sp29), (30, true, sp30)]) (fun p hp => by cases hp) (by intro p hp; simp only [List.mem_cons, List.not_mem_nil, or_false] at hp; rcases hp with rfl | rfl <;> first | exact sp29_ok | exact sp30_ok)) gamX_det rfl Tryd.func17 (c := codeOf Tryd.f17) rfl Tryd.ntmps17 (rs := [.tmp 2]) Tryd.results17 (by unfold enters; rw [Tryd.func17]; kernel_rfl) (Nat.le_of_ble_eq_true (by kernel_rfl)) (X := X) (c0 := 0) (Eq.mp (F17_eq g K X) h))
/-- quilt/quiltlaw01.awake -/
def H11 : List (Nat × Hint) := []
def J11 : List (Nat × Hint) := []
abbrev S11 : List Sh := []
abbrev L11 : List Lf := []
def F11 (g : prodL L11) (K : Kn) : Prop :=
  sp14.pre ((⟨#[40, 51, 58, 97, 98, 99, 50, 58, 45, 55, 41]⟩ : ByteArray), ()) ∧
  bif !decide (((((dcT (⟨#[40, 51, 58, 97, 98, 99, 50, 58, 45, 55, 41]⟩ : ByteArray)).1.list).length : Nat) : Int) = 2) then (
    K (.bool false) [])
  else (
    At ((dcT (⟨#[40, 51, 58, 97, 98, 99, 50, 58, 45, 55, 41]⟩ : ByteArray)).1.list) 1 fun u1 =>
  sp20.pre (u1.isList, u1.atom, u1.list, ()) ∧
  sp14.pre ((⟨#[40, 51, 58, 97, 98]⟩ : ByteArray), ()) ∧
  sp14.pre ((⟨#[48, 51, 58, 97, 98, 99]⟩ : ByteArray), ()) ∧
  bif decide ((dcT (⟨#[40, 51, 58, 97, 98, 99, 50, 58, 45, 55, 41]⟩ : ByteArray)).2 = 0) then (
    bif decide ((nmG ⟨u1.isList, u1.atom, u1.list⟩).2 = 0) then (
      bif decide ((nmG ⟨u1.isList, u1.atom, u1.list⟩).1 = (-7)) then (
        At ((dcT (⟨#[40, 51, 58, 97, 98, 99, 50, 58, 45, 55, 41]⟩ : ByteArray)).1.list) 0 fun u2 =>
        bif decide (u2.atom = (⟨#[97, 98, 99]⟩ : ByteArray)) then (
          bif decide ((dcT (⟨#[40, 51, 58, 97, 98]⟩ : ByteArray)).2 = 11) then (
            K (.bool (decide ((dcT (⟨#[48, 51, 58, 97, 98, 99]⟩ : ByteArray)).2 = 12))) [])
          else (
            K (.bool false) []))
        else (
          K (.bool false) []))
      else (
        K (.bool false) []))
    else (
      K (.bool false) []))
  else (
    K (.bool false) []))
theorem F11_eq (g : prodL L11) (K X : Kn) : F11 g K = dfun D (gamX [] [(14, false, sp14), (20, true, sp20)]) (isRaw []) H11 J11 59 [.tmp 0] (codeOf Tryd.f11) (argsT S11 L11 g) [] (settle0 K) X := by kernel_rfl
theorem F11_ok (g : prodL L11) (K X : Kn) (h : F11 g K) : FCalls Tryd.prog 11 (argsT S11 L11 g) [] K X :=
  FCalls.settle0 (dfun_sound (Γ := gamX [] [(14, false, sp14), (20, true, sp20)]) (mu := isRaw []) (H := H11) (J := J11) D_ok (gamX_ok (rs := []) (l := [(14, false, sp14), (20, true, sp20)]) (fun p hp => by cases hp) (by intro p hp; simp only [List.mem_cons, List.not_mem_nil, or_false] at hp; rcases hp with rfl | rfl <;> first | exact sp14_ok | exact sp20_ok)) gamX_det rfl Tryd.func11 (c := codeOf Tryd.f11) rfl Tryd.ntmps11 (rs := [.tmp 0]) Tryd.results11 (by unfold enters; rw [Tryd.func11]; kernel_rfl) (Nat.le_of_ble_eq_true (by kernel_rfl)) (X := X) (c0 := 0) (Eq.mp (F11_eq g K X) h))
end Go.Proofs.YtpbkhdeehlikfaaDoor

/-
  Csexp: the bounds of the statements; the chapter's examples.
-/
namespace Go.Proofs.YtpbkhdeehlikfaaDoor
set_option linter.unusedVariables false
set_option linter.unusedSimpArgs false
set_option linter.unusedSectionVars false
open Go.RowKit

def grT (x : Sx) : Bool := decide (60 < cnt x 60 20) || lgR x
def sp17 : Sp := ⟨S17, L17, bkP, fun g => .bool (grT ⟨g.1, g.2.1, g.2.2.1⟩), fun _ => none⟩
theorem sp17_ok : sp17.Ok Tryd.prog 17 true :=
  ⟨by
    rintro ⟨b, a, l, ⟨⟩⟩ K X q1 h
    have h : K (.bool (grT ⟨b, a, l⟩)) [] := h
    have q1 : bkS ⟨b, a, l⟩ ≤ lim := q1
    refine F17_ok (b, a, l, ()) K X ⟨⟨q1, ⟨(by omega : (0 : Int) ≤ 60), (by omega : (60 : Int) ≤ 1099511627776)⟩, (by omega : (0 : Int) ≤ 20), (by omega : (20 : Int) ≤ 1099511627776)⟩, ?_⟩
    unfold grT at h
    dsimp only
    rw [bif_dec]
    split
    · rename_i h1; rw [decide_eq_true h1, Bool.true_or] at h; exact h
    · rename_i h1; rw [decide_eq_false h1, Bool.false_or] at h; exact ⟨q1, h⟩, fun _ _ _ => rfl, fun _ => rfl, fun _ _ => ⟨rfl, rfl⟩⟩
def sp11 : Sp := ⟨S11, L11, fun _ => True, fun _ => .bool true, fun _ => none⟩
theorem w1 : dcT (⟨#[40, 51, 58, 97, 98, 99, 50, 58, 45, 55, 41]⟩ : ByteArray) = (⟨true, ⟨#[]⟩, [⟨false, ⟨#[97, 98, 99]⟩, []⟩, ⟨false, ⟨#[45, 55]⟩, []⟩]⟩, 0) := by kernel_rfl
theorem w2 : (dcT (⟨#[40, 51, 58, 97, 98]⟩ : ByteArray)).2 = 11 := by kernel_rfl
theorem w3 : (dcT (⟨#[48, 51, 58, 97, 98, 99]⟩ : ByteArray)).2 = 12 := by kernel_rfl
theorem w4 : nmG ⟨false, ⟨#[45, 55]⟩, []⟩ = (-7, 0) := by kernel_rfl
theorem sp11_ok : sp11.Ok Tryd.prog 11 true :=
  ⟨by
    rintro ⟨⟩ K X q1 h
    have h : K (.bool true) [] := h
    refine F11_ok () K X ?_
    unfold F11
    rw [w1, w2, w3]
    refine ⟨(by decide : (11 : Nat) ≤ 2147483648), ?_⟩
    rw [bif_ndec]
    rw [if_pos (by decide)]
    refine At_of (n := 1) (by simp) ?_
    dsimp only [List.getElem_cons_succ, List.getElem_cons_zero]
    rw [w4]
    refine ⟨(by show bkS ⟨false, ⟨#[45, 55]⟩, []⟩ ≤ lim; decide), (by decide : (5 : Nat) ≤ 2147483648), (by decide : (6 : Nat) ≤ 2147483648), ?_⟩
    refine At_of (n := 0) (by simp) ?_
    exact h, fun _ _ _ => rfl, fun _ => rfl, fun _ _ => ⟨rfl, rfl⟩⟩
end Go.Proofs.YtpbkhdeehlikfaaDoor

/- What functions come to: printed by exf.py. -/
namespace Go.Proofs.YtpbkhdeehlikfaaDoor
set_option linter.unusedVariables false
set_option linter.unusedSimpArgs false
set_option linter.unusedSectionVars false
open Go.RowKit
attribute [local irreducible] dfun dround
/-- quilt/quiltlaw01.CsexpRead -/
def H3 : List (Nat × Hint) := []
def J3 : List (Nat × Hint) := []
abbrev S3 : List Sh := [.leaf]
abbrev L3 : List Lf := [.str]
def F3 (g : prodL L3) (K : Kn) : Prop :=
  bif decide (300 < (g.1.size : Int)) then (
    sp11.pre (()) ∧
    K (.bool true) [])
  else (
    sp12.pre (g.1, ()) ∧
  sp13.pre (g.1, ()) ∧
  sp14.pre (g.1, ()) ∧
  sp15.pre (g.1, ()) ∧
  sp16.pre ((rdT g.1).1.isList, (rdT g.1).1.atom, (rdT g.1).1.list, (rdT g.1).1.isList, (rdT g.1).1.atom, (rdT g.1).1.list, ()) ∧
  bif smR ⟨((rdT g.1).1.isList), ((rdT g.1).1.atom), ((rdT g.1).1.list)⟩ ⟨((rdT g.1).1.isList), ((rdT g.1).1.atom), ((rdT g.1).1.list)⟩ then (
    bif decide ((rdT g.1).2.1 = (rdT g.1).2.1) then (
      bif decide ((rdT g.1).2.2 = (rdT g.1).2.2) then (
        sp16.pre ((dcT g.1).1.isList, (dcT g.1).1.atom, (dcT g.1).1.list, (dcT g.1).1.isList, (dcT g.1).1.atom, (dcT g.1).1.list, ()) ∧
        bif smR ⟨((dcT g.1).1.isList), ((dcT g.1).1.atom), ((dcT g.1).1.list)⟩ ⟨((dcT g.1).1.isList), ((dcT g.1).1.atom), ((dcT g.1).1.list)⟩ then (
          bif decide ((dcT g.1).2 = (dcT g.1).2) then (
            sp11.pre (()) ∧
            K (.bool true) [])
          else (
            K (.bool false) []))
        else (
          K (.bool false) []))
      else (
        K (.bool false) []))
    else (
      K (.bool false) []))
  else (
    K (.bool false) []))
theorem F3_eq (g : prodL L3) (K X : Kn) : F3 g K = dfun D (gamX [] [(11, true, sp11), (12, false, sp12), (13, false, sp13), (14, false, sp14), (15, false, sp15), (16, true, sp16)]) (isRaw []) H3 J3 65 [.tmp 2] (codeOf Tryd.f3) (argsT S3 L3 g) [] (settle0 K) X := by kernel_rfl
theorem F3_ok (g : prodL L3) (K X : Kn) (h : F3 g K) : FCalls Tryd.prog 3 (argsT S3 L3 g) [] K X :=
  FCalls.settle0 (dfun_sound (Γ := gamX [] [(11, true, sp11), (12, false, sp12), (13, false, sp13), (14, false, sp14), (15, false, sp15), (16, true, sp16)]) (mu := isRaw []) (H := H3) (J := J3) D_ok (gamX_ok (rs := []) (l := [(11, true, sp11), (12, false, sp12), (13, false, sp13), (14, false, sp14), (15, false, sp15), (16, true, sp16)]) (fun p hp => by cases hp) (by intro p hp; simp only [List.mem_cons, List.not_mem_nil, or_false] at hp; rcases hp with rfl | rfl | rfl | rfl | rfl | rfl <;> first | exact sp11_ok | exact sp12_ok | exact sp13_ok | exact sp14_ok | exact sp15_ok | exact sp16_ok)) gamX_det rfl Tryd.func3 (c := codeOf Tryd.f3) rfl Tryd.ntmps3 (rs := [.tmp 2]) Tryd.results3 (by unfold enters; rw [Tryd.func3]; kernel_rfl) (Nat.le_of_ble_eq_true (by kernel_rfl)) (X := X) (c0 := 0) (Eq.mp (F3_eq g K X) h))
/-- quilt/quiltlaw01.CsexpInts -/
def H5 : List (Nat × Hint) := []
def J5 : List (Nat × Hint) := [(7, ⟨[], [(1, .leaf), (44, .leaf)], [], [.str, .bool]⟩), (9, ⟨[], [(1, .leaf), (54, .leaf)], [], [.str, .bool]⟩), (10, ⟨[], [(1, .leaf)], [], [.str]⟩)]
abbrev S5 : List Sh := [.leaf, .leaf]
abbrev L5 : List Lf := [.int .i64, .str]
def F5_J6 (K : Kn) (s_5 : ByteArray) : Prop :=
  sp20.pre (false, s_5, [], ()) ∧
  bif decide ((nmG ⟨false, s_5, []⟩).2 = 0) then (
    sp18.pre ((nmG ⟨false, s_5, []⟩).1, ()) ∧
    bif decide ((intB ((nmG ⟨false, s_5, []⟩).1)).2 = 0) then (
      bif decide ((intB ((nmG ⟨false, s_5, []⟩).1)).1.atom = s_5) then (
        sp11.pre (()) ∧
        K (.bool true) [])
      else (
        K (.bool false) []))
    else (
      K (.bool false) []))
  else (
    sp11.pre (()) ∧
  K (.bool true) [])
def F5_J2 (K : Kn) (s_1 : ByteArray) (t_1 : Bool) : Prop :=
  bif t_1 then (
      K (.bool false) [])
    else (
      F5_J6 K s_1)
def F5_J4 (K : Kn) (s_3 : ByteArray) (t_3 : Bool) : Prop :=
  bif t_3 then (
      K (.bool false) [])
    else (
      F5_J6 K s_3)
def F5 (g : prodL L5) (K : Kn) : Prop :=
  bif decide (200 < (g.2.1.size : Int)) then (
    sp11.pre (()) ∧
    K (.bool true) [])
  else (
    sp18.pre (g.1, ()) ∧
  bif decide ((intB g.1).2 = 0) then (
    sp20.pre ((intB g.1).1.isList, (intB g.1).1.atom, (intB g.1).1.list, ()) ∧
    bif !decide ((nmG ⟨((intB g.1).1.isList), ((intB g.1).1.atom), ((intB g.1).1.list)⟩).2 = 0) then (
      F5_J2 K g.2.1 true)
    else (
      bif !decide ((nmG ⟨((intB g.1).1.isList), ((intB g.1).1.atom), ((intB g.1).1.list)⟩).1 = g.1) then (
        F5_J2 K g.2.1 true)
      else (
        bif (intB g.1).1.isList then (
          F5_J2 K g.2.1 true)
        else (
          sp22.pre ((intB g.1).1.isList, (intB g.1).1.atom, (intB g.1).1.list, ()) ∧
          F5_J2 K g.2.1 (!decide (ckG ⟨((intB g.1).1.isList), ((intB g.1).1.atom), ((intB g.1).1.list)⟩ = 0))))))
  else (
    bif !decide ((intB g.1).2 = 2) then (
      F5_J4 K g.2.1 true)
    else (
      bif decide ((-1099511627776) ≤ g.1) then (
        F5_J4 K g.2.1 (decide (g.1 ≤ 1099511627776)))
      else (
        F5_J4 K g.2.1 false))))
theorem F5_eq (g : prodL L5) (K X : Kn) : F5 g K = dfun D (gamX [] [(11, true, sp11), (18, false, sp18), (20, true, sp20), (22, true, sp22)]) (isRaw []) H5 J5 80 [.tmp 4] (codeOf Tryd.f5) (argsT S5 L5 g) [] (settle0 K) X := by kernel_rfl
theorem F5_ok (g : prodL L5) (K X : Kn) (h : F5 g K) : FCalls Tryd.prog 5 (argsT S5 L5 g) [] K X :=
  FCalls.settle0 (dfun_sound (Γ := gamX [] [(11, true, sp11), (18, false, sp18), (20, true, sp20), (22, true, sp22)]) (mu := isRaw []) (H := H5) (J := J5) D_ok (gamX_ok (rs := []) (l := [(11, true, sp11), (18, false, sp18), (20, true, sp20), (22, true, sp22)]) (fun p hp => by cases hp) (by intro p hp; simp only [List.mem_cons, List.not_mem_nil, or_false] at hp; rcases hp with rfl | rfl | rfl | rfl <;> first | exact sp11_ok | exact sp18_ok | exact sp20_ok | exact sp22_ok)) gamX_det rfl Tryd.func5 (c := codeOf Tryd.f5) rfl Tryd.ntmps5 (rs := [.tmp 4]) Tryd.results5 (by unfold enters; rw [Tryd.func5]; kernel_rfl) (Nat.le_of_ble_eq_true (by kernel_rfl)) (X := X) (c0 := 0) (Eq.mp (F5_eq g K X) h))
end Go.Proofs.YtpbkhdeehlikfaaDoor

/-
  Csexp: the laws Read and Ints.
-/
namespace Go.Proofs.YtpbkhdeehlikfaaDoor
set_option linter.unusedVariables false
set_option linter.unusedSimpArgs false
set_option linter.unusedSectionVars false
open Go.RowKit

mutual
theorem smR_refl : ∀ x : Sx, smR x x = true
  | ⟨b, a, l⟩ => by simp [smR, smRs_refl l]
theorem smRs_refl : ∀ l : List Sx, smRs l l = true
  | [] => rfl
  | x :: l => by simp [smRs, smR_refl x, smRs_refl l]
end
theorem bk_sx0 : bkS sx0 = 3 := rfl
theorem rdT_bk (s : ByteArray) : bkS (rdT s).1 ≤ 4 * s.size + 3 := by
  have hs := rdS_sound 12 0 (bl s) (by omega)
  unfold rdT
  cases hr : rdS 12 0 (bl s) with
  | err e => show bkS sx0 ≤ _; rw [bk_sx0]; omega
  | ok a =>
    obtain ⟨x, k, r⟩ := a
    obtain ⟨⟨p, _, p2, p3⟩, _⟩ := hs.1 x k r hr
    have := bl_len s
    rw [p2, List.length_append] at this
    show bkS x ≤ _
    omega
theorem dcT_bk (s : ByteArray) : bkS (dcT s).1 ≤ 4 * s.size + 3 := by
  have := rdT_bk s
  unfold dcT
  split
  · split
    · exact this
    · show bkS sx0 ≤ _; rw [bk_sx0]; omega
  · show bkS sx0 ≤ _; rw [bk_sx0]; omega
theorem csexpRead.calls (g : prodL L3) (hw : wfL L3 g) (hb : bkL L3 g ≤ 1048576) : FCalls Tryd.prog 3 (argsT S3 L3 g) [] (fun r _ => r = .bool true) fun _ _ => False := by
  obtain ⟨s, ⟨⟩⟩ := g
  refine F3_ok _ _ _ ?_
  unfold F3
  dsimp only
  rw [bif_dec]
  split
  · exact ⟨trivial, rfl⟩
  · rename_i h
    have h1 := rdT_bk s
    have h2 := dcT_bk s
    have hp : topP s := (by omega : s.size ≤ 2147483648)
    refine ⟨hp, hp, hp, hp, ?_, ?_⟩
    · show bkS ⟨_, _, _⟩ ≤ lim
      rw [Sx.eta, lim_eq]; omega
    · rw [Sx.eta, smR_refl, cond_true, decide_eq_true rfl, cond_true, decide_eq_true rfl, cond_true]
      refine ⟨?_, ?_⟩
      · show bkS ⟨_, _, _⟩ ≤ lim
        rw [Sx.eta, lim_eq]; omega
      · rw [Sx.eta, smR_refl, cond_true, decide_eq_true rfl, cond_true]
        exact ⟨trivial, rfl⟩
theorem dec_len : ∀ (k u : Nat), u < 10 ^ (k + 1) → (Lib.decDigits u).length ≤ k + 1
  | 0, u, h => by rw [Lib.decDigits_one (by omega)]; simp
  | k + 1, u, h => by
    by_cases hu : u < 10
    · rw [Lib.decDigits_one hu]; simp
    · rw [Lib.decDigits, dif_neg hu, List.length_append]
      have := dec_len k (u / 10) (by rw [Nat.pow_succ] at h; omega)
      simp only [List.length_cons, List.length_nil]; omega
theorem bl_dec (n : Int) : bl (decB n) = Lib.itoa n := bl_mk _
theorem decB_size {n : Int} (h : intP n) : (decB n).size ≤ 21 := by
  rw [← bl_len, bl_dec]
  obtain ⟨h1, h2⟩ : -9223372036854775808 ≤ n ∧ n ≤ 9223372036854775807 := h
  unfold Lib.itoa
  split
  · have := dec_len 19 n.natAbs (by omega)
    simp only [List.length_cons]; omega
  · have := dec_len 19 n.toNat (by omega)
    omega
theorem ck_atom {a : ByteArray} (h : a.size ≤ 65536) : ckG ⟨false, a, []⟩ = 0 := by
  simp [ckG, madd, shS, shSs]
  omega
theorem csexpInts.calls (g : prodL L5) (hw : wfL L5 g) (hb : bkL L5 g ≤ 1048576) : FCalls Tryd.prog 5 (argsT S5 L5 g) [] (fun r _ => r = .bool true) fun _ _ => False := by
  obtain ⟨n, s, ⟨⟩⟩ := g
  have hn : intP n := hw.1
  refine F5_ok _ _ _ ?_
  unfold F5
  dsimp only
  rw [bif_dec]
  split
  · exact ⟨trivial, rfl⟩
  rename_i hs
  have bk3 : ∀ a : ByteArray, a.size ≤ 1000 → bkP (false, a, [], ()) := fun a ha => by
    show a.size + 3 + 0 ≤ lim
    rw [lim_eq]; omega
  have hJ : F5_J6 (fun r _ => r = .bool true) s := by
    unfold F5_J6
    refine ⟨bk3 s (by omega), ?_⟩
    rw [bif_dec]
    split
    · rename_i h0
      have hc := ck_atom (a := s) (by omega)
      have e : nmG ⟨false, s, []⟩ = if canR (bl s) = true then numV (bl s) else (0, 3) := by
        unfold nmG nmB
        rw [hc, if_pos rfl, if_neg (by simp)]
      rw [e] at h0 ⊢
      by_cases hcan : canR (bl s) = true
      · rw [if_pos hcan] at h0 ⊢
        obtain ⟨k1, k2⟩ := itoa_num hcan (m := (numV (bl s)).1) (Prod.ext rfl h0)
        generalize (numV (bl s)).1 = m at k1 k2 ⊢
        have hm : intB m = (⟨false, decB m, []⟩, 0) := by unfold intB; rw [if_neg k2]
        rw [hm]
        refine ⟨⟨(by omega : -9223372036854775808 ≤ m), (by omega : m ≤ 9223372036854775807)⟩, ?_⟩
        rw [decide_eq_true rfl, cond_true, decide_eq_true (show decB m = s from bl_inj (by rw [bl_dec]; exact k1)), cond_true]
        exact ⟨trivial, rfl⟩
      · rw [if_neg hcan] at h0
        exact absurd h0 (by decide)
    · exact ⟨trivial, rfl⟩
  refine ⟨hn, ?_⟩
  rw [bif_dec]
  by_cases hr : n < -1099511627776 ∨ 1099511627776 < n
  · have hm : intB n = (sx0, 2) := by unfold intB; rw [if_pos hr]
    rw [hm, if_neg (by decide), decide_eq_true rfl]
    show bif decide (-1099511627776 ≤ n) then _ else _
    rw [bif_dec]
    split
    · rename_i h1; rw [decide_eq_false (fun h2 => hr.elim (fun h3 => Int.not_le.2 h3 h1) fun h3 => Int.not_le.2 h3 h2)]; exact hJ
    · exact hJ
  · have hm : intB n = (⟨false, decB n, []⟩, 0) := by unfold intB; rw [if_neg hr]
    have hsz := decB_size hn
    have hc := ck_atom (a := decB n) (by omega)
    have e : nmG ⟨false, decB n, []⟩ = (n, 0) := by
      unfold nmG nmB
      rw [hc, if_pos rfl, if_neg (by simp)]
      dsimp only
      rw [bl_dec, if_pos (can_itoa n), num_itoa hr]
    rw [hm, if_pos rfl]
    dsimp only
    refine ⟨bk3 _ (by omega), ?_⟩
    rw [e]
    dsimp only
    rw [decide_eq_true rfl, decide_eq_true rfl, hc, decide_eq_true rfl]
    exact ⟨bk3 _ (by omega), hJ⟩
end Go.Proofs.YtpbkhdeehlikfaaDoor

/-
  Csexp: Decimal (the reference's).
-/
namespace Go.Proofs.YtpbkhdeehlikfaaDoor
set_option linter.unusedVariables false
set_option linter.unusedSimpArgs false
set_option linter.unusedSectionVars false
open Go.RowKit

theorem bl_app (a b : ByteArray) : bl (a ++ b) = bl a ++ bl b := by simp [bl, ByteArray.data_append]
theorem dec_min : decB (-9223372036854775808) = (⟨#[45, 57, 50, 50, 51, 51, 55, 50, 48, 51, 54, 56, 53, 52, 55, 55, 53, 56, 48, 56]⟩ : ByteArray) := by
  apply bl_inj
  rw [bl_dec, Lib.itoa, if_pos (by decide)]
  have h := dec_uniq 19 [57, 50, 50, 51, 51, 55, 50, 48, 51, 54, 56, 53, 52, 55, 55, 53, 56, 48, 56] rfl (by decide) (by simp) (.inl (by decide))
  have e : dv 0 [57, 50, 50, 51, 51, 55, 50, 48, 51, 54, 56, 53, 52, 55, 55, 53, 56, 48, 56] = (-9223372036854775808 : Int).natAbs := by kernel_rfl
  rw [e] at h
  rw [h]
  rfl
def dmu (n : Int) : Nat := if n < 0 then n.natAbs + 1 else n.toNat
theorem dec_neg {n : Int} (h : n < 0) : (⟨#[45]⟩ : ByteArray) ++ decB (-n) = decB n := by
  apply bl_inj
  rw [bl_app, bl_dec, bl_dec, Lib.itoa, Lib.itoa, if_pos h, if_neg (by omega), show (-n).toNat = n.natAbs by omega]
  rfl
theorem dec_one {n : Int} (h0 : ¬ n < 0) (h : n < 10) : bStr [48 + n] = decB n := by
  apply bl_inj
  rw [bl_dec, Lib.itoa, if_neg h0, Lib.decDigits_one (by omega)]
  show [UInt8.ofNat (48 + n).toNat] = _
  rw [show (48 + n).toNat = 48 + n.toNat by omega]
theorem dec_more {n : Int} (h0 : ¬ n < 0) (h : ¬ n < 10) : decB (n / 10) ++ bStr [48 + n % 10] = decB n := by
  apply bl_inj
  rw [bl_app, bl_dec, bl_dec, Lib.itoa, Lib.itoa, if_neg h0, if_neg (by omega)]
  show _ ++ [UInt8.ofNat (48 + n % 10).toNat] = _
  rw [show (48 + n % 10).toNat = 48 + n.toNat % 10 by omega, show (n / 10).toNat = n.toNat / 10 by omega]
  conv => rhs; rw [Lib.decDigits, dif_neg (show ¬ n.toNat < 10 by omega)]
theorem F32_is {Z : prodL L32 → Prop} {n : Int} {K : Kn} (hn : intP n) (hZ : ∀ m, intP m → dmu m < dmu n → Z (m, ())) (h : K (.str (decB n)) []) : F32 Z (n, ()) K := by
  have hn' : -9223372036854775808 ≤ n ∧ n ≤ 9223372036854775807 := hn
  unfold F32
  dsimp only [prodL, Lf.ty]
  rw [bif_dec]
  by_cases h0 : n < 0
  · rw [if_pos h0, bif_dec]
    by_cases h1 : n < -9223372036854775807
    · rw [if_pos h1]
      obtain rfl : n = -9223372036854775808 := by omega
      rw [dec_min] at h
      exact h
    · rw [if_neg h1, wrap64 (n := 0 - n) (by omega) (by omega), show 0 - n = -n by omega]
      have hm : intP (-n) := (⟨by omega, by omega⟩ : -9223372036854775808 ≤ -n ∧ -n ≤ 9223372036854775807)
      have hs := decB_size hm
      refine ⟨hZ _ hm (by unfold dmu; rw [if_pos h0, if_neg (by omega)]; omega), ?_, ?_⟩
      · show (1 + (decB (-n)).size) * 1 ≤ 140737488355328
        omega
      · rw [dec_neg h0]; exact h
  · rw [if_neg h0, bif_dec]
    by_cases h1 : n < 10
    · rw [if_pos h1, wrap64 (n := 48 + n) (by omega) (by omega), show IntKind.u8.wrap (48 + n) = 48 + n by (simp [IntKind.wrap, IntKind.bits, IntKind.signed]; omega), dec_one h0 h1]
      exact h
    · rw [if_neg h1]
      have e1 : Int.tdiv n 10 = n / 10 := Int.tdiv_eq_ediv_of_nonneg (by omega)
      have e2 : Int.tmod n 10 = n % 10 := Int.tmod_eq_emod_of_nonneg (by omega)
      rw [e1, e2, wrap64 (n := n / 10) (by omega) (by omega), wrap64 (n := 48 + n % 10) (by omega) (by omega), show IntKind.u8.wrap (48 + n % 10) = 48 + n % 10 by (simp [IntKind.wrap, IntKind.bits, IntKind.signed]; omega)]
      have hm : intP (n / 10) := (⟨by omega, by omega⟩ : -9223372036854775808 ≤ n / 10 ∧ n / 10 ≤ 9223372036854775807)
      have hs := decB_size hm
      refine ⟨by decide, hZ _ hm (by unfold dmu; rw [if_neg h0, if_neg (by omega)]; omega), by decide, ?_, ?_⟩
      · show ((decB (n / 10)).size + 1) * 1 ≤ 140737488355328
        omega
      · rw [dec_more h0 h1]; exact h
def sp32 : Sp := spz32 fun g => intP g.1
theorem sp32_all : ∀ n, (spz32 fun g => intP g.1 ∧ dmu g.1 < n).Ok Tryd.prog 32 true
  | 0 => ⟨fun _ _ _ h _ => absurd h.2 (Nat.not_lt_zero _), fun _ _ _ => rfl, fun _ => rfl, fun _ _ => ⟨rfl, rfl⟩⟩
  | n + 1 => ⟨by
      rintro ⟨k, ⟨⟩⟩ K X ⟨q1, q2⟩ h
      have q2 : dmu k < n + 1 := q2
      exact F32_ok _ (sp32_all n) _ _ X (F32_is q1 (fun m h1 h2 => ⟨h1, (by omega : dmu m < n)⟩) h), fun _ _ _ => rfl, fun _ => rfl, fun _ _ => ⟨rfl, rfl⟩⟩
theorem sp32_ok : sp32.Ok Tryd.prog 32 true :=
  ⟨fun g K X hp h => (sp32_all (dmu g.1 + 1)).calls g K X ⟨hp, Nat.lt_succ_self _⟩ h, fun _ _ _ => rfl, fun _ => rfl, fun _ _ => ⟨rfl, rfl⟩⟩
end Go.Proofs.YtpbkhdeehlikfaaDoor

/- What functions come to: printed by exf.py. -/
namespace Go.Proofs.YtpbkhdeehlikfaaDoor
set_option linter.unusedVariables false
set_option linter.unusedSimpArgs false
set_option linter.unusedSectionVars false
open Go.RowKit
attribute [local irreducible] dfun dround
/-- quilt/quiltref01.Int -/
def H19 : List (Nat × Hint) := []
def J19 : List (Nat × Hint) := [(2, ⟨[((2, []), none)], [(0, .leaf), (2, .pt 0 0), (9, .leaf)], [.cells [.leaf, .leaf, .nil]], [.int .i64, .bool, .bool, .str]⟩)]
abbrev S19 : List Sh := [.leaf]
abbrev L19 : List Lf := [.int .i64]
def F19_J2 (K : Kn) (n_1 : Int) (t_1 : Bool) (t1_1 : Bool) (t2_1 : ByteArray) : Prop :=
  bif t_1 then (
    K (.tu [.ag [.bool false, .str (⟨#[]⟩ : ByteArray), .nil], .int .i64 2]) [])
  else (
    sp32.pre (n_1, ()) ∧
  K (.tu [.ag [.bool false, .str (decB n_1), .nil], .int .i64 0]) [])
def F19 (g : prodL L19) (K : Kn) : Prop :=
  bif decide (g.1 < (-1099511627776)) then (
    F19_J2 K g.1 true false (⟨#[]⟩ : ByteArray))
  else (
    F19_J2 K g.1 (decide (1099511627776 < g.1)) false (⟨#[]⟩ : ByteArray))
theorem F19_eq (g : prodL L19) (K X : Kn) : F19 g K = dfun D (gamX [] [(32, true, sp32)]) (isRaw []) H19 J19 14 [.cell 2 25, .tmp 3] (codeOf Tryd.f19) (argsT S19 L19 g) [] (settle0 K) X := by kernel_rfl
theorem F19_ok (g : prodL L19) (K X : Kn) (h : F19 g K) : FCalls Tryd.prog 19 (argsT S19 L19 g) [] K X :=
  FCalls.settle0 (dfun_sound (Γ := gamX [] [(32, true, sp32)]) (mu := isRaw []) (H := H19) (J := J19) D_ok (gamX_ok (rs := []) (l := [(32, true, sp32)]) (fun p hp => by cases hp) (by intro p hp; simp only [List.mem_cons, List.not_mem_nil, or_false] at hp; subst hp; exact sp32_ok)) gamX_det rfl Tryd.func19 (c := codeOf Tryd.f19) rfl Tryd.ntmps19 (rs := [.cell 2 25, .tmp 3]) Tryd.results19 (by unfold enters; rw [Tryd.func19]; kernel_rfl) (Nat.le_of_ble_eq_true (by kernel_rfl)) (X := X) (c0 := 0) (Eq.mp (F19_eq g K X) h))
end Go.Proofs.YtpbkhdeehlikfaaDoor

/-
  Csexp: Int (the reference's); the two checks agree.
-/
namespace Go.Proofs.YtpbkhdeehlikfaaDoor
set_option linter.unusedVariables false
set_option linter.unusedSimpArgs false
set_option linter.unusedSectionVars false
open Go.RowKit

def sp19 : Sp := ⟨S19, L19, fun g => intP g.1, sp18.res, fun _ => none⟩
theorem sp19_ok : sp19.Ok Tryd.prog 19 false :=
  ⟨by
    rintro ⟨n, ⟨⟩⟩ K X q1 h
    have h : K (.tu [.ag [.bool (intB n).1.isList, .str (intB n).1.atom, .sl false .sexp (intB n).1.list], .int .i64 (intB n).2]) [] := h
    refine FCalls.weak (F19_ok (n, ()) (wkK K) X ?_)
    unfold F19
    dsimp only
    rw [bif_dec]
    unfold intB at h
    by_cases h1 : n < -1099511627776
    · rw [if_pos (.inl h1)] at h
      rw [if_pos h1]
      exact wkK_nil2 h
    · rw [if_neg h1]
      unfold F19_J2
      rw [bif_dec]
      by_cases h2 : 1099511627776 < n
      · rw [if_pos (.inr h2)] at h
        rw [if_pos h2]
        exact wkK_nil2 h
      · rw [if_neg (fun e => e.elim h1 h2)] at h
        rw [if_neg h2]
        exact ⟨q1, wkK_nil2 h⟩, fun _ _ _ => rfl, fun _ => rfl, fun h => (by cases h)⟩

mutual
/-- Nodes, and depth, of what a count goes through. -/
def nn : Sx → Nat
  | ⟨b, _, l⟩ => if b = false then 1 else 1 + nns l
def nns : List Sx → Nat
  | [] => 0
  | x :: l => nn x + nns l
end
mutual
def dd : Sx → Nat
  | ⟨b, _, l⟩ => if b = false then 1 else 1 + dds l
def dds : List Sx → Nat
  | [] => 0
  | x :: l => max (dd x) (dds l)
end
theorem nn_pos (x : Sx) : 1 ≤ nn x := by
  obtain ⟨b, a, l⟩ := x
  simp only [nn]
  split <;> omega
theorem dd_pos (x : Sx) : 1 ≤ dd x := by
  obtain ⟨b, a, l⟩ := x
  simp only [dd]
  split <;> omega
mutual
theorem cnt_small : ∀ (x : Sx) (m d : Int), (nn x : Int) ≤ m → (dd x : Int) ≤ d → cnt x m d = nn x
  | ⟨b, a, l⟩, m, d, h1, h2 => by
    simp only [nn, dd, cnt] at *
    by_cases hb : b = false
    · rw [if_pos hb] at h1 h2 ⊢
      rw [if_neg (by omega), if_pos hb]; rfl
    · rw [if_neg hb] at h1 h2 ⊢
      rw [if_neg (by omega), if_neg hb, cnts_small l m (d - 1) 1 (by omega) (by omega)]; omega
theorem cnts_small : ∀ (l : List Sx) (m d n : Int), n + (nns l : Int) ≤ m → (dds l : Int) ≤ d → cnts l m d n = n + nns l
  | [], m, d, n, _, _ => by simp [cnts, nns]
  | x :: l, m, d, n, h1, h2 => by
    simp only [nns, dds, cnts] at *
    rw [if_pos (by omega), cnt_small x (m - n) d (by omega) (by omega), cnts_small l m d _ (by omega) (by omega)]; omega
end
theorem cnts_over : ∀ (l : List Sx) (m d n : Int), m < n → cnts l m d n = n
  | [], _, _, _, _ => rfl
  | x :: l, m, d, n, h => by simp only [cnts]; rw [if_neg (by omega)]
mutual
theorem cnt_in : ∀ (x : Sx) (m d : Int), 0 ≤ m → cnt x m d ≤ m → (nn x : Int) ≤ m ∧ (dd x : Int) ≤ d
  | ⟨b, a, l⟩, m, d, h0, h => by
    simp only [nn, dd, cnt] at *
    by_cases hc : d < 1 ∨ m < 1
    · rw [if_pos hc] at h; omega
    · rw [if_neg hc] at h
      by_cases hb : b = false
      · rw [if_pos hb, if_pos hb]; omega
      · rw [if_neg hb] at h
        rw [if_neg hb, if_neg hb]
        have := cnts_in l m (d - 1) 1 (by omega) (by omega) h
        omega
theorem cnts_in : ∀ (l : List Sx) (m d n : Int), n ≤ m → 0 ≤ d → cnts l m d n ≤ m → n + (nns l : Int) ≤ m ∧ (dds l : Int) ≤ d
  | [], m, d, n, h0, hd, _ => by simp only [nns, dds]; omega
  | x :: l, m, d, n, h0, hd, h => by
    simp only [nns, dds, cnts] at *
    rw [if_pos h0] at h
    by_cases hc : n + cnt x (m - n) d ≤ m
    · obtain ⟨k1, k2⟩ := cnt_in x (m - n) d (by omega) (by omega)
      rw [cnt_small x (m - n) d k1 k2] at h hc
      have := cnts_in l m d _ hc hd h
      omega
    · rw [cnts_over l m d _ (by omega)] at h
      omega
end
theorem madds_over : ∀ (l : List Sx) (n d : Int), madds l n true d = (n, true)
  | [], _, _ => rfl
  | x :: l, n, d => by simp only [madds, if_true]
mutual
theorem madd_is : ∀ (x : Sx) (n d : Int), (n + (nn x : Int) ≤ 20000 ∧ (dd x : Int) + d - 1 ≤ 12 → madd x n false d = (n + nn x, false)) ∧ ((madd x n false d).2 = false → n + (nn x : Int) ≤ 20000 ∧ (dd x : Int) + d - 1 ≤ 12)
  | ⟨b, a, l⟩, n, d => by
    simp only [nn, dd, madd]
    by_cases hb : b = false
    · simp only [if_pos hb, Bool.false_or]
      refine ⟨fun h => ?_, fun h => ?_⟩
      · rw [decide_eq_false (by omega)]; rfl
      · have := of_decide_eq_false h; omega
    · simp only [if_neg hb, Bool.false_or]
      by_cases hc : 20000 < n + 1 ∨ 12 < d
      · rw [decide_eq_true hc, madds_over]
        exact ⟨fun h => by omega, fun h => by cases h⟩
      · rw [decide_eq_false hc]
        obtain ⟨k1, k2⟩ := madds_is l (n + 1) (d + 1) (by omega) (by omega)
        refine ⟨fun h => ?_, fun h => ?_⟩
        · rw [k1 (by omega)]
          simp only [Prod.mk.injEq, and_true]; omega
        · have := k2 h; omega
theorem madds_is : ∀ (l : List Sx) (n d : Int), n ≤ 20000 → d ≤ 13 → (n + (nns l : Int) ≤ 20000 ∧ (dds l : Int) + d - 1 ≤ 12 → madds l n false d = (n + nns l, false)) ∧ ((madds l n false d).2 = false → n + (nns l : Int) ≤ 20000 ∧ (dds l : Int) + d - 1 ≤ 12)
  | [], n, d, hn, hd => by
    simp only [nns, dds, madds]
    exact ⟨fun _ => by simp, fun _ => by omega⟩
  | x :: l, n, d, hn, hd => by
    simp only [nns, dds, madds]
    rw [if_neg (by simp)]
    obtain ⟨k1, k2⟩ := madd_is x n d
    have hp := nn_pos x
    by_cases hx : n + (nn x : Int) ≤ 20000 ∧ (dd x : Int) + d - 1 ≤ 12
    · rw [k1 hx]
      obtain ⟨m1, m2⟩ := madds_is l (n + nn x) d (by omega) hd
      refine ⟨fun h => ?_, fun h => ?_⟩
      · rw [m1 (by omega)]
        simp only [Prod.mk.injEq, and_true]; omega
      · have := m2 h; omega
    · refine ⟨fun h => by omega, fun h => ?_⟩
      cases hm : (madd x n false d).2 with
      | false => exact absurd (k2 hm) hx
      | true => rw [hm, madds_over] at h; cases h
end
mutual
theorem shape_eq : ∀ x : Sx, shS x = ckR x
  | ⟨b, a, l⟩ => by
    simp only [shS, ckR]
    cases b with
    | false =>
      simp only [if_true, Bool.false_eq_true, false_and, false_or, true_and]
      by_cases hl : 0 < l.length
      · rw [if_pos hl, if_pos hl]
      · rw [if_neg hl, if_neg hl]
        have : l = [] := List.eq_nil_of_length_eq_zero (by omega)
        subst this
        rfl
    | true =>
      simp only [Bool.true_eq_false, if_false, true_and, false_and, or_false]
      by_cases ha : a ≠ ⟨#[]⟩
      · rw [if_pos ha, if_pos ha]
      · rw [if_neg ha, if_neg ha]
        have : a = ⟨#[]⟩ := Classical.not_not.1 ha
        subst this
        rw [if_neg (by decide), shapes_eq l]
theorem shapes_eq : ∀ l : List Sx, shSs l = ckRs l
  | [] => rfl
  | x :: l => by simp only [shSs, ckRs, shape_eq x, shapes_eq l]
end
theorem check_eq (x : Sx) : ckG x = ckN x := by
  unfold ckG ckN
  rw [shape_eq]
  obtain ⟨k1, k2⟩ := madd_is x 0 1
  by_cases h : (0 : Int) + (nn x : Int) ≤ 20000 ∧ (dd x : Int) + 1 - 1 ≤ 12
  · rw [k1 h, if_neg (by simp), if_neg (by rw [cnt_small x 20000 12 (by omega) (by omega)]; omega)]
  · have h1 : (madd x 0 false 1).2 = true := by
      cases hm : (madd x 0 false 1).2 with
      | false => exact absurd (k2 hm) h
      | true => rfl
    rw [if_pos h1, if_pos]
    refine Int.not_le.1 fun hle => h ?_
    have := cnt_in x 20000 12 (by omega) hle
    omega
end Go.Proofs.YtpbkhdeehlikfaaDoor

/- What functions come to: printed by exf.py. -/
namespace Go.Proofs.YtpbkhdeehlikfaaDoor
set_option linter.unusedVariables false
set_option linter.unusedSimpArgs false
set_option linter.unusedSectionVars false
open Go.RowKit
attribute [local irreducible] dfun dround
/-- quilt/quiltlaw01.CsexpNumbers -/
def H4 : List (Nat × Hint) := []
def J4 : List (Nat × Hint) := []
abbrev S4 : List Sh := [.leaf, .ag [.leaf, .leaf, .leaf]]
abbrev L4 : List Lf := [.int .i64, .bool, .str, .sl .sexp]
def F4 (g : prodL L4) (K : Kn) : Prop :=
  sp17.pre (g.2.1, g.2.2.1, g.2.2.2.1, ()) ∧
  bif grT ⟨g.2.1, g.2.2.1, g.2.2.2.1⟩ then (
    sp11.pre (()) ∧
    K (.bool true) [])
  else (
    sp18.pre (g.1, ()) ∧
  sp19.pre (g.1, ()) ∧
  sp20.pre (g.2.1, g.2.2.1, g.2.2.2.1, ()) ∧
  sp21.pre (g.2.1, g.2.2.1, g.2.2.2.1, ()) ∧
  sp16.pre ((intB g.1).1.isList, (intB g.1).1.atom, (intB g.1).1.list, (intB g.1).1.isList, (intB g.1).1.atom, (intB g.1).1.list, ()) ∧
  bif smR ⟨((intB g.1).1.isList), ((intB g.1).1.atom), ((intB g.1).1.list)⟩ ⟨((intB g.1).1.isList), ((intB g.1).1.atom), ((intB g.1).1.list)⟩ then (
    bif decide ((intB g.1).2 = (intB g.1).2) then (
      bif decide ((nmG ⟨g.2.1, g.2.2.1, g.2.2.2.1⟩).1 = (nmN ⟨g.2.1, g.2.2.1, g.2.2.2.1⟩).1) then (
        bif decide ((nmG ⟨g.2.1, g.2.2.1, g.2.2.2.1⟩).2 = (nmN ⟨g.2.1, g.2.2.1, g.2.2.2.1⟩).2) then (
          sp11.pre (()) ∧
          K (.bool true) [])
        else (
          K (.bool false) []))
      else (
        K (.bool false) []))
    else (
      K (.bool false) []))
  else (
    K (.bool false) []))
theorem F4_eq (g : prodL L4) (K X : Kn) : F4 g K = dfun D (gamX [] [(11, true, sp11), (16, true, sp16), (17, true, sp17), (18, false, sp18), (19, false, sp19), (20, true, sp20), (21, true, sp21)]) (isRaw []) H4 J4 57 [.tmp 4] (codeOf Tryd.f4) (argsT S4 L4 g) [] (settle0 K) X := by kernel_rfl
theorem F4_ok (g : prodL L4) (K X : Kn) (h : F4 g K) : FCalls Tryd.prog 4 (argsT S4 L4 g) [] K X :=
  FCalls.settle0 (dfun_sound (Γ := gamX [] [(11, true, sp11), (16, true, sp16), (17, true, sp17), (18, false, sp18), (19, false, sp19), (20, true, sp20), (21, true, sp21)]) (mu := isRaw []) (H := H4) (J := J4) D_ok (gamX_ok (rs := []) (l := [(11, true, sp11), (16, true, sp16), (17, true, sp17), (18, false, sp18), (19, false, sp19), (20, true, sp20), (21, true, sp21)]) (fun p hp => by cases hp) (by intro p hp; simp only [List.mem_cons, List.not_mem_nil, or_false] at hp; rcases hp with rfl | rfl | rfl | rfl | rfl | rfl | rfl <;> first | exact sp11_ok | exact sp16_ok | exact sp17_ok | exact sp18_ok | exact sp19_ok | exact sp20_ok | exact sp21_ok)) gamX_det rfl Tryd.func4 (c := codeOf Tryd.f4) rfl Tryd.ntmps4 (rs := [.tmp 4]) Tryd.results4 (by unfold enters; rw [Tryd.func4]; kernel_rfl) (Nat.le_of_ble_eq_true (by kernel_rfl)) (X := X) (c0 := 0) (Eq.mp (F4_eq g K X) h))
end Go.Proofs.YtpbkhdeehlikfaaDoor

/-
  Csexp: the law Numbers.
-/
namespace Go.Proofs.YtpbkhdeehlikfaaDoor
set_option linter.unusedVariables false
set_option linter.unusedSimpArgs false
set_option linter.unusedSectionVars false
open Go.RowKit

theorem bk_le {b : Bool} {a : ByteArray} {l : List Sx} {N : Nat} (h : bkL [.bool, .str, .sl .sexp] (b, a, l, ()) ≤ N) : bkS ⟨b, a, l⟩ ≤ N := by
  have e : (l.map (bk .sexp)).sum = (l.map bkS).sum := rfl
  simp only [bkL] at h
  simp only [bkS, bkSs_sum]
  omega
theorem nm_eq (x : Sx) : nmG x = nmN x := by unfold nmG nmN; rw [check_eq]
theorem csexpNumbers.calls (g : prodL L4) (hw : wfL L4 g) (hb : bkL L4 g ≤ 1048576) : FCalls Tryd.prog 4 (argsT S4 L4 g) [] (fun r _ => r = .bool true) fun _ _ => False := by
  obtain ⟨n, b, a, l, ⟨⟩⟩ := g
  have hn : intP n := hw.1
  have hk : bkS ⟨b, a, l⟩ ≤ lim := by
    have hb : 1 + bkL [.bool, .str, .sl .sexp] (b, a, l, ()) ≤ 1048576 := hb
    have := bk_le (Nat.le_trans (Nat.le_add_left _ 1) hb)
    rw [lim_eq]; omega
  refine F4_ok _ _ _ ?_
  unfold F4
  dsimp only
  refine ⟨hk, ?_⟩
  cases hg : grT ⟨b, a, l⟩ with
  | true => exact ⟨trivial, rfl⟩
  | false =>
    have hi : bkS (intB n).1 ≤ lim := by
      have := decB_size hn
      unfold intB
      split
      · show 3 ≤ lim; rw [lim_eq]; omega
      · show (decB n).size + 3 + 0 ≤ lim; rw [lim_eq]; omega
    refine ⟨hn, hn, hk, hk, ?_, ?_⟩
    · show bkS ⟨_, _, _⟩ ≤ lim
      rw [Sx.eta]; exact hi
    · rw [Sx.eta, smR_refl, cond_true, decide_eq_true rfl, cond_true, nm_eq, decide_eq_true rfl, cond_true, decide_eq_true rfl, cond_true]
      exact ⟨trivial, rfl⟩
end Go.Proofs.YtpbkhdeehlikfaaDoor
