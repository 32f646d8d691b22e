/-
  Link: what its functions yield, in plain terms, 9: Step.
-/
import Derived.Test.YthjikjhddddplaaFZ
namespace Go.Proofs.Ythjikjhddddplaa
set_option linter.unusedVariables false
set_option linter.unusedSimpArgs false
open Go.RowKit

def delBody (J : prodL [.int .i64, .sl .flt, .sl .i64, .int .i64, .sl .pkt] → Prop) (W : prodL [.int .i64, .int .i64, .sl .flt, .int .i64, .sl .flt, .sl .i64, .sl .pkt] → Prop) (g : prodL [.int .i64, .int .i64, .sl .flt, .int .i64, .sl .flt, .sl .i64, .sl .pkt]) : Prop :=
  bif decide (g.2.1 < (g.2.2.1.length : Int)) then (
    0 ≤ g.2.1 ∧ g.2.1.toNat < g.2.2.1.length ∧
    atI g.2.2.1 g.2.1.toNat fun x =>
    bif decide (x.due ≤ g.2.2.2.1) then (
      Room (g.2.2.2.2.2.2.1.length + [(⟨x.pkt.to, x.pkt.data⟩ : Pkt)].length) 24 (
        bif !decide (x.due ≤ g.2.2.2.1) then (
          0 ≤ g.1 ∧ g.1.toNat < g.2.2.1.length ∧
          atI g.2.2.1 g.1.toNat fun _ =>
          W (IntKind.i64.wrap (g.1 + 1), IntKind.i64.wrap (g.2.1 + 1), g.2.2.1.set g.1.toNat (⟨⟨x.pkt.to, x.pkt.data⟩, x.due⟩ : Flt), g.2.2.2.1, g.2.2.2.2.1, g.2.2.2.2.2.1, g.2.2.2.2.2.2.1 ++ [(⟨x.pkt.to, x.pkt.data⟩ : Pkt)], ()))
        else (
          W (g.1, IntKind.i64.wrap (g.2.1 + 1), g.2.2.1, g.2.2.2.1, g.2.2.2.2.1, g.2.2.2.2.2.1, g.2.2.2.2.2.2.1 ++ [(⟨x.pkt.to, x.pkt.data⟩ : Pkt)], ()))))
    else (
      bif !decide (x.due ≤ g.2.2.2.1) then (
        0 ≤ g.1 ∧ g.1.toNat < g.2.2.1.length ∧
        atI g.2.2.1 g.1.toNat fun _ =>
        W (IntKind.i64.wrap (g.1 + 1), IntKind.i64.wrap (g.2.1 + 1), g.2.2.1.set g.1.toNat (⟨⟨x.pkt.to, x.pkt.data⟩, x.due⟩ : Flt), g.2.2.2.1, g.2.2.2.2.1, g.2.2.2.2.2.1, g.2.2.2.2.2.2.1, ()))
      else (
        W (g.1, IntKind.i64.wrap (g.2.1 + 1), g.2.2.1, g.2.2.2.1, g.2.2.2.2.1, g.2.2.2.2.2.1, g.2.2.2.2.2.2.1, ()))))
  else (
    (0 : Int) ≤ g.1 ∧ g.1 ≤ (g.2.2.1.length : Int) ∧ (g.2.2.1.length : Int) ≤ (g.2.2.1.length : Int) ∧
    (0 : Int) ≤ 0 ∧ 0 ≤ g.1 ∧ g.1 ≤ ((clearAt g.2.2.1 g.1.toNat ((g.2.2.1.length : Int).toNat - g.1.toNat) (⟨⟨0, (⟨#[]⟩)⟩, 0⟩ : Flt)).length : Int) ∧
    J (g.2.2.2.1, ((clearAt g.2.2.1 g.1.toNat ((g.2.2.1.length : Int).toNat - g.1.toNat) (⟨⟨0, (⟨#[]⟩)⟩, 0⟩ : Flt)).drop ((0 : Int).toNat)).take (g.1.toNat - (0 : Int).toNat), g.2.2.2.2.2.1, 0, g.2.2.2.2.2.2.1, ()))
theorem del_loop {n1 : Int} {fl : List Flt} {ft : List Int} {J : prodL [.int .i64, .sl .flt, .sl .i64, .int .i64, .sl .pkt] → Prop} (hr : fl.length ≤ 1000)
    (hJ : J (n1, fl.filter (fun f => !decide (f.due ≤ n1)), ft, 0, (fl.filter (fun f => decide (f.due ≤ n1))).map (·.pkt), ())) {i j : Nat} {l : List Flt} (hij : i < j) (hj : j ≤ fl.length) (hl : l.length = fl.length) (h1 : l.take i = (fl.take j).filter (fun f => !decide (f.due ≤ n1))) (h2 : l.drop j = fl.drop j) :
    LoopW (delBody J) ((i : Int), (j : Int), l, n1, fl, ft, ((fl.take j).filter (fun f => decide (f.due ≤ n1))).map (·.pkt), ()) := by
  refine LoopW.of (fun g => ∃ (i j : Nat) (l : List Flt), g = ((i : Int), (j : Int), l, n1, fl, ft, ((fl.take j).filter (fun f => decide (f.due ≤ n1))).map (·.pkt), ()) ∧ i < j ∧ j ≤ fl.length ∧ l.length = fl.length ∧ l.take i = (fl.take j).filter (fun f => !decide (f.due ≤ n1)) ∧ l.drop j = fl.drop j) (fun g => fl.length - g.2.1.toNat) ?_ ⟨i, j, l, rfl, hij, hj, hl, h1, h2⟩
  rintro _ ⟨i, j, l, rfl, hij, hj, hl, h1, h2⟩ W hW
  unfold delBody
  dsimp only [Lf.ty, prodL]
  by_cases hlt : j < fl.length
  · rw [show decide ((j : Int) < (l.length : Int)) = true by rw [hl]; simp; omega, cond_true]
    have hx : l[j]'(by omega) = fl[j] := by
      have : (l.drop j)[0]? = (fl.drop j)[0]? := by rw [h2]
      simp only [List.getElem?_drop, Nat.add_zero] at this
      rw [List.getElem?_eq_getElem (by omega), List.getElem?_eq_getElem hlt] at this
      exact Option.some.inj this
    have hd' : l.drop (j + 1) = fl.drop (j + 1) := by
      have := congrArg (List.drop 1) h2
      simpa [List.drop_drop, Nat.add_comm] using this
    have hout : (((fl.take j).filter (fun f => decide (f.due ≤ n1))).map (·.pkt)).length ≤ 1000 := by
      rw [List.length_map]; exact Nat.le_trans (List.length_filter_le _ _) (by simp; omega)
    refine ⟨Int.natCast_nonneg _, by rw [Int.toNat_natCast]; omega, fl[j], by rw [Int.toNat_natCast, List.getElem?_eq_getElem (by omega), hx], ?_⟩
    dsimp only [Lf.ty, prodL]
    rw [wrapS (n := j) hlt (by omega)]
    by_cases hd : fl[j].due ≤ n1
    · rw [decide_eq_true hd, cond_true]
      refine ⟨Nat.le_trans (Nat.mul_le_mul_right 24 (Nat.succ_le_succ hout)) (by decide), ?_⟩
      rw [Bool.not_true, cond_false]
      refine hW _ ⟨i, j + 1, l, ?_, by omega, by omega, hl, ?_, hd'⟩ (by simp only [Int.toNat_natCast]; omega)
      · rw [take_snoc hlt, List.filter_append, List.map_append]; simp [List.filter_cons, hd]
      · rw [take_snoc hlt, List.filter_append, h1]; simp [List.filter_cons, hd]
    · rw [decide_eq_false hd, cond_false, Bool.not_false, cond_true]
      refine ⟨Int.natCast_nonneg _, by rw [Int.toNat_natCast]; omega, l[i]'(by omega), by rw [Int.toNat_natCast, List.getElem?_eq_getElem (by omega)], ?_⟩
      dsimp only [Lf.ty, prodL]
      rw [wrapS (n := i) (N := fl.length) (by omega) (by omega)]
      refine hW _ ⟨i + 1, j + 1, l.set i fl[j], ?_, by omega, by omega, by simp [hl], ?_, ?_⟩ (by simp only [Int.toNat_natCast]; omega)
      · rw [take_snoc hlt, List.filter_append, List.map_append]; simp [List.filter_cons, hd]
      · rw [take_snoc (l := l.set i fl[j]) (by simp; omega), take_snoc hlt, List.filter_append, ← h1]
        simp [List.filter_cons, hd, List.take_set_of_le]
      · rw [List.drop_set_of_lt (by omega)]; exact hd'
  · have hje : j = fl.length := by omega
    subst hje
    rw [show decide (((fl.length : Nat) : Int) < (l.length : Int)) = false by rw [hl]; simp, cond_false]
    rw [List.take_of_length_le (Nat.le_refl _)] at h1 ⊢
    have hc : (clearAt l i (l.length - i) (⟨⟨0, (⟨#[]⟩)⟩, 0⟩ : Flt)).length = l.length := clearAt_len (by omega)
    refine ⟨Int.natCast_nonneg _, Int.ofNat_le.2 (by omega), Int.le_refl _, Int.le_refl _, Int.natCast_nonneg _, ?_, ?_⟩
    · rw [Int.toNat_natCast, Int.toNat_natCast, hc]; exact Int.ofNat_le.2 (by omega)
    have : ((clearAt l ((i : Int).toNat) ((l.length : Int).toNat - (i : Int).toNat) (⟨⟨0, (⟨#[]⟩)⟩, 0⟩ : Flt)).drop ((0 : Int).toNat)).take ((i : Int).toNat - (0 : Int).toNat) = l.take i := by
      simp only [Int.toNat_natCast, Int.toNat_zero, List.drop_zero, Nat.sub_zero]
      unfold clearAt
      rw [List.take_append_of_le_length (by simp; omega), List.take_take, Nat.min_self]
    rw [this, h1]
    exact hJ
theorem F19_is {now : Int} {fl : List Flt} {ft : List Int} {K : Kn} (h : K (stepT (stepOf ⟨now, fl, ft⟩)) []) : F19 (now, fl, ft, ()) (wkK K) := by
  unfold F19
  dsimp only [Lf.ty, prodL]
  refine ⟨trivial, ?_⟩
  unfold stepOf at h
  by_cases he : Lnk.err ⟨now, fl, ft⟩ = 0
  case neg =>
    rw [decide_eq_false he, Bool.not_false, cond_true]
    rw [if_pos he] at h
    exact wk_step h
  rw [decide_eq_true he, Bool.not_true, cond_false]
  rw [if_neg (by simp [he])] at h
  obtain ⟨r1, r2, r3, r4, r5⟩ := err_room he
  dsimp only at r1 r2 r3 r4 r5 h
  by_cases hm : now = 1099511627776
  · rw [decide_eq_true hm, cond_true]
    rw [if_pos hm] at h
    exact wk_step h
  rw [decide_eq_false hm, cond_false]
  rw [if_neg hm] at h
  rw [wrap64 (n := now + 1) (by omega) (by omega)]
  refine ⟨by show fl.length ≤ 4294967296; omega, ?_⟩
  refine LoopW.countTo fl.length (fun n => ((fl.length : Int), (n : Int), fl, now + 1, fl, ft, [], ())) (fun n => ∀ f ∈ fl.take n, ¬ f.due ≤ now + 1) (by simp) (fun n hn hp W hW => ?_) (by simp)
  dsimp only
  have hnone : (fl.take n).filter (fun f => decide (f.due ≤ now + 1)) = [] := List.filter_eq_nil_iff.2 fun f hf => by simpa using hp f hf
  have hall : (fl.take n).filter (fun f => !decide (f.due ≤ now + 1)) = fl.take n := List.filter_eq_self.2 fun f hf => by simpa using hp f hf
  by_cases hlt : n < fl.length
  · rw [show decide ((n : Int) < (fl.length : Int)) = true by simp; omega, cond_true]
    refine ⟨Int.natCast_nonneg _, by rw [Int.toNat_natCast]; omega, fl[n], by rw [Int.toNat_natCast, List.getElem?_eq_getElem hlt], ?_⟩
    dsimp only
    by_cases hd : fl[n].due ≤ now + 1
    · rw [decide_eq_true hd, cond_true]
      refine ⟨(by decide : (0 + 1) * 24 ≤ 140737488355328), ?_⟩
      rw [cond_true, show decide ((n : Int) = -1) = false from decide_eq_false (by omega), cond_false, wrapS hlt (by omega)]
      have key := del_loop (n1 := now + 1) (fl := fl) (ft := ft) (J := fun g20 => wkK K (.tu [.ag [.int .i64 g20.1, .sl false .flt g20.2.1, .sl false .i64 g20.2.2.1], .sl false .pkt g20.2.2.2.2.1, .int .i64 0]) []) r1 (wkK.same h) (i := n) (j := n + 1) (l := fl) (Nat.lt_succ_self n) hlt rfl (by rw [take_snoc hlt, List.filter_append, hall]; simp [List.filter_cons, hd]) rfl
      rw [take_snoc hlt, List.filter_append, hnone] at key
      simp only [List.filter_cons, hd, decide_true, if_true, List.filter_nil, List.nil_append, List.map_cons, List.map_nil] at key
      exact key
    · rw [decide_eq_false hd, cond_false, cond_false, wrapS hlt (by omega)]
      refine hW hlt fun x hx => ?_
      rw [take_snoc hlt] at hx
      rcases List.mem_append.1 hx with h4 | h4
      · exact hp x h4
      · simp at h4; subst h4; exact hd
  · rw [show decide ((n : Int) < (fl.length : Int)) = false by simp; omega, cond_false]
    rw [show decide ((-1 : Int) = -1) = true by decide, cond_true]
    rw [List.take_of_length_le (by omega)] at hnone hall
    rw [hnone, hall] at h
    exact wkK.same h
def sp19 : Sp := ⟨S19, L19, fun _ => True, fun g => stepT (stepOf ⟨g.1, g.2.1, g.2.2.1⟩), fun _ => none⟩
theorem sp19_ok : sp19.Ok Try.prog 19 false :=
  ⟨fun _ _ X _ h => FCalls.weak (F19_ok _ _ X (F19_is h)), fun _ _ _ => rfl, fun _ => rfl, fun h => by cases h⟩
end Go.Proofs.Ythjikjhddddplaa
