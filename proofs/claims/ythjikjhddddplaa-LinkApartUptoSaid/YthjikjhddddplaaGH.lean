/-
  LinkPlain, LinkDelay, LinkApart: their texts yield true.
-/
import Derived.Test.YthjikjhddddplaaGG
import Derived.Test.YthjikjhddddplaaRW
namespace Go.Proofs.Ythjikjhddddplaa
set_option linter.unusedVariables false
set_option linter.unusedSimpArgs false
open Go.RowKit

theorem flightsAll_nil {now : Int} : ∀ ps : List Pkt, flightsAll now [] ps = ps.map fun p => ⟨p, now + 1⟩
  | [] => rfl
  | p :: r => by
    have h : delaysOf (fateOf []) = [1] := by decide
    simp only [flightsAll, h, List.tail_nil, flightsAll_nil r]
    rfl
theorem F6_is {now : Int} {ps : List Pkt} {K : Kn} (h0 : 0 ≤ now ∧ now < 4294967296) (hr : ps.length ≤ 4294967296) (h : K (.bool true) []) : F6 (now, ps, ()) K := by
  unfold F6
  refine ⟨hr, ?_⟩
  cases hs : shortB ps with
  | false => rw [Bool.not_false, cond_true]; exact ⟨trivial, h⟩
  | true =>
    rw [Bool.not_true, cond_false]
    dsimp only
    obtain ⟨p1, p2⟩ := short_ok hs
    rw [wrap64 (n := now) (by omega) (by omega), wrap64 (n := now + 1) (by omega) (by omega)]
    have he := new_err (now := now) (ft := []) h0.1 (by omega) (by simp) (by simp)
    obtain ⟨q1, q2⟩ := sent_ok (ps := ps) he p1 (by simp; omega)
    have st := step_ok q2 (by rw [q1]; dsimp only; omega)
    rw [q1, flightsAll_nil] at st
    refine ⟨⟨hr, by simp⟩, ?_⟩
    rw [q1, flightsAll_nil, Bool.not_true, cond_false]
    dsimp only
    rw [st]
    dsimp only
    have f1 : (([] : List Flt) ++ ps.map (fun p => (⟨p, now + 1⟩ : Flt))).filter (fun f => decide (f.due ≤ now + 1)) = ps.map fun p => (⟨p, now + 1⟩ : Flt) := by
      rw [List.nil_append, List.filter_eq_self]
      intro f hf
      obtain ⟨p, _, rfl⟩ := List.mem_map.1 hf
      simp
    have f2 : (([] : List Flt) ++ ps.map (fun p => (⟨p, now + 1⟩ : Flt))).filter (fun f => !decide (f.due ≤ now + 1)) = [] := by
      rw [List.nil_append, List.filter_eq_nil_iff]
      intro f hf
      obtain ⟨p, _, rfl⟩ := List.mem_map.1 hf
      simp
    rw [f1, f2]
    have f3 : (ps.map fun p => (⟨p, now + 1⟩ : Flt)).map (·.pkt) = ps := by simp [Function.comp_def]
    rw [f3]
    refine ⟨trivial, ?_⟩
    rw [decide_eq_true (p := (0 : Int) = 0) rfl, cond_true]
    refine ⟨hr, ?_⟩
    rw [decide_eq_true (p := ps = ps) rfl, cond_true]
    refine ⟨trivial, ?_⟩
    simp only [List.length_nil, Int.natCast_zero, decide_true, cond_true]
    exact ⟨trivial, h⟩

theorem F8_B11_is {K : Kn} {W4 : prodL [.sl .i64, .int .i64, .int .i64, .str, .int .i64, .sl .flt, .sl .i64] → Prop} {d : List Int} {tick f : Int} {q : List Pkt} {p : Pkt} {l1 : Int} {l2 : List Flt} {l3 : List Int} {m : Lnk} (hd : d.length ≤ 2) (hq : q.length ≤ 4294967296) (hf : f = 0) (he : q = (d.filter (· = tick)).map fun _ => p)
    (hW : W4 (d, IntKind.i64.wrap (tick + 1), p.to, p.data, m.now, m.flights, m.fates, ())) :
    LoopW (γ := prodL [.sl .i64, .int .i64, .sl .pkt, .int .i64, .sl .i64, .int .i64, .int .i64, .int .i64, .str, .int .i64, .sl .flt, .sl .i64, .int .i64, .sl .flt, .sl .i64, .sl .pkt]) (fun V y => F8_B11 K W4 V y.1 y.2.1 y.2.2.1 y.2.2.2.1 y.2.2.2.2.1 y.2.2.2.2.2.1 y.2.2.2.2.2.2.1 y.2.2.2.2.2.2.2.1 y.2.2.2.2.2.2.2.2.1 y.2.2.2.2.2.2.2.2.2.1 y.2.2.2.2.2.2.2.2.2.2.1 y.2.2.2.2.2.2.2.2.2.2.2.1 y.2.2.2.2.2.2.2.2.2.2.2.2.1 y.2.2.2.2.2.2.2.2.2.2.2.2.2.1 y.2.2.2.2.2.2.2.2.2.2.2.2.2.2.1 y.2.2.2.2.2.2.2.2.2.2.2.2.2.2.2.1)
      (d, tick, q, f, d, (d.length : Int), 0, p.to, p.data, l1, l2, l3, m.now, m.flights, m.fates, [], ()) := by
  refine LoopW.countTo d.length (fun j => (d, tick, q, f, d, (d.length : Int), (j : Int), p.to, p.data, l1, l2, l3, m.now, m.flights, m.fates, ((d.take j).filter (· = tick)).map (fun _ => p), ())) (fun _ => True) (by simp) (fun j hj _ W hW2 => ?_) trivial
  dsimp only
  unfold F8_B11
  by_cases hlt : j < d.length
  · rw [show decide ((j : Int) < (d.length : Int)) = true by simp; omega, cond_true]
    refine At_of hlt ?_
    have := hW2 hlt trivial
    rw [take_snoc hlt, List.filter_append, List.map_append] at this
    unfold F8_J14
    rw [wrapS hlt (by omega)]
    have hl : (((d.take j).filter (· = tick)).map (fun _ => p)).length ≤ 2 := by
      rw [List.length_map]; exact Nat.le_trans (List.length_filter_le _ _) (by simp; omega)
    by_cases hk : d[j] = tick
    · rw [decide_eq_true hk, cond_true]
      refine ⟨Nat.le_trans (Nat.mul_le_mul_right 24 (Nat.succ_le_succ hl)) (by decide), ?_⟩
      simpa [List.filter_cons, hk] using this
    · rw [decide_eq_false hk, cond_false]
      simpa [List.filter_cons, hk] using this
  · rw [show decide ((j : Int) < (d.length : Int)) = false by simp; omega, cond_false]
    rw [List.take_of_length_le (by omega), ← he, decide_eq_true hf, Bool.not_true, cond_false]
    refine ⟨hq, ?_⟩
    unfold F8_J16
    rw [decide_eq_true rfl, Bool.not_true, cond_false]
    exact hW
theorem F8_is {to : Int} {data : ByteArray} {fate now : Int} {K : Kn} (h0 : 0 ≤ now ∧ now < 4294967296) (hf : fits64 fate) (h : K (.bool true) []) : F8 (to, data, fate, now, ()) K := by
  unfold F8
  refine ⟨by show 1 ≤ 4294967296; decide, ?_⟩
  dsimp only
  cases hs : shortB [(⟨to, data⟩ : Pkt)] with
  | false => rw [Bool.not_false, cond_true]; exact ⟨trivial, h⟩
  | true =>
    rw [Bool.not_true, cond_false]
    unfold F8_J2
    by_cases hneg : fate < 0
    · rw [decide_eq_true hneg, cond_true]; exact ⟨trivial, h⟩
    rw [decide_eq_false hneg, cond_false, wrap64 (n := now) (by omega) (by omega)]
    have hp : pktErr ⟨to, data⟩ = 0 := (short_ok hs).1 _ (by simp)
    have he := new_err (now := now) (ft := [fate]) h0.1 (by omega) (by simp) (by simp; omega)
    have hsend := send_ok he hp (by simp)
    have he2 := ((send_valid (l := ⟨now, [], [fate]⟩) (p := ⟨to, data⟩)).1 (by rw [hsend])).2
    refine ⟨by intro f hf'; simp at hf'; subst hf'; exact hf, ?_⟩
    rw [hsend, decide_eq_true (p := (0 : Int) = 0) rfl, Bool.not_true, cond_false]
    rw [hsend] at he2
    refine ⟨hf, ?_⟩
    dsimp only at he2 ⊢
    obtain ⟨d1, _⟩ := delays_le fate
    have hfate : fateOf [fate] = fate := rfl
    rw [hfate] at he2 ⊢
    generalize hl : (⟨now, [] ++ flightsOf now ⟨to, data⟩ (delaysOf fate), [fate].tail⟩ : Lnk) = l at he2 ⊢
    have hln : l.now = now := by rw [← hl]
    have hlf : l.flights = flightsOf now ⟨to, data⟩ (delaysOf fate) := by rw [← hl]; rfl
    have hlt : l.fates = [] := by rw [← hl]; rfl
    have hnow : ∀ k : Nat, (after l k).now = now + k := fun k => by simp [after, hln]
    refine LoopW.countTo 10 (fun n => (delaysOf fate, (n : Int) + 1, to, data, (after l n).now, (after l n).flights, (after l n).fates, ())) (fun _ => True) (by rw [after_zero he2, hln, hlf, hlt]; rfl) (fun n hn _ W hW => ?_) trivial
    dsimp only
    unfold F8_B4
    by_cases hlt10 : n < 10
    · rw [show decide ((n : Int) + 1 ≤ 10) = true by simp; omega, cond_true]
      refine ⟨trivial, ?_⟩
      have hst := after_step (l := l) n (after_err he2 n (by omega)) (by omega)
      have hst' : stepOf ⟨(after l n).now, (after l n).flights, (after l n).fates⟩ = _ := hst
      rw [hst']
      have hwant : (l.flights.filter (fun f => decide (l.now + n < f.due ∧ f.due ≤ l.now + n + 1))).map (·.pkt) = ((delaysOf fate).filter (· = (n : Int) + 1)).map fun _ => (⟨to, data⟩ : Pkt) := by
        rw [hlf, hln]
        unfold flightsOf
        rw [List.filter_map, List.map_map]
        congr 1
        refine List.filter_congr fun d _ => ?_
        show decide (now + (n : Int) < now + d ∧ now + d ≤ now + (n : Int) + 1) = decide (d = (n : Int) + 1)
        rw [decide_eq_decide]
        omega
      refine F8_B11_is (p := ⟨to, data⟩) (m := after l (n + 1)) d1 ?_ rfl hwant ?_
      · rw [hwant, List.length_map]
        exact Nat.le_trans (List.length_filter_le _ _) (by omega)
      · have := hW hlt10 trivial
        rw [wrap64 (by omega) (by omega)]
        exact this
    · rw [show decide ((n : Int) + 1 ≤ 10) = false by simp; omega, cond_false]
      refine ⟨trivial, ?_⟩
      rw [after_nine he2 n (by omega)]
      exact ⟨trivial, h⟩

theorem flightsAll_err {l : Lnk} (he : l.err = 0) {ps : List Pkt} (hp : ∀ p ∈ ps, pktErr p = 0) (hr : l.flights.length + 2 * ps.length ≤ 1000) : (sentOf l ps).1.now = l.now ∧ (sentOf l ps).1.flights = l.flights ++ flightsAll l.now l.fates ps ∧ (sentOf l ps).1.err = 0 ∧ (sentOf l ps).2 = true := by
  obtain ⟨q1, q2⟩ := sent_ok he hp hr
  exact ⟨by rw [q1], by rw [q1], q2, by rw [q1]⟩
theorem sent_fates : ∀ {ps : List Pkt} {l : Lnk}, (∀ f ∈ l.fates, fits64 f) → ∀ f ∈ (sentOf l ps).1.fates, fits64 f
  | [], _, h => h
  | p :: r, l, h => by
    rw [sentOf]
    split
    · exact h
    · exact sent_fates (send_fates h)
theorem F9_is {ps more : List Pkt} {ft : List Int} {K : Kn} (hr : ps.length ≤ 4294967296 ∧ more.length ≤ 4294967296) (hft : ∀ f ∈ ft, fits64 f) (h : K (.bool true) []) : F9 (ps, more, ft, ()) K := by
  unfold F9
  have yes : ∀ b, (b = false → shortB ps = true ∧ shortB more = true ∧ ft.length ≤ 20 ∧ (⟨0, [], ft⟩ : Lnk).err = 0) → F9_J2 K ps more ft b := fun b hb => by
    unfold F9_J2
    cases b with
    | true => exact ⟨trivial, h⟩
    | false =>
      rw [cond_false]
      obtain ⟨b1, b2, b3, b4⟩ := hb rfl
      obtain ⟨p1, p2⟩ := short_ok b1
      obtain ⟨m1, m2⟩ := short_ok b2
      obtain ⟨r1, r2, r3, r4⟩ := flightsAll_err b4 p1 (by simp; omega)
      have hl1 : (sentOf ⟨0, [], ft⟩ ps).1.flights.length ≤ 24 := by
        rw [r2]
        have := flightsAll_len (now := 0) (ft := ft) (ps := ps)
        simp; omega
      refine ⟨⟨hr.1, hft⟩, ?_⟩
      rw [r4, Bool.not_true, cond_false]
      refine ⟨⟨hr.2, sent_fates (l := ⟨0, [], ft⟩) hft⟩, ?_⟩
      generalize (sentOf ⟨0, [], ft⟩ ps).1 = a at *
      obtain ⟨s1, s2, s3, s4⟩ := flightsAll_err r3 m1 (by omega)
      have hea : (⟨a.now, a.flights, a.fates⟩ : Lnk) = a := rfl
      rw [hea, s4, Bool.not_true, cond_false]
      generalize (sentOf a more).1 = b at *
      dsimp only at r1
      have han : a.now = 0 := r1
      have hbn : b.now = 0 := by rw [s1]; exact r1
      refine LoopW.countTo 9 (fun n => ((n : Int), (after a n).now, (after a n).flights, (after a n).fates, (after b n).now, (after b n).flights, (after b n).fates, ())) (fun _ => True) (by rw [after_zero r3, after_zero s3]; rfl) (fun n hn _ W hW => ?_) trivial
      dsimp only
      unfold F9_B4
      by_cases hlt : n < 9
      · rw [show decide ((n : Int) < 9) = true by simp; omega, cond_true]
        refine ⟨trivial, trivial, ?_⟩
        have hsa : stepOf ⟨(after a n).now, (after a n).flights, (after a n).fates⟩ = _ := after_step (l := a) n (after_err r3 n (by omega)) (by omega)
        have hsb : stepOf ⟨(after b n).now, (after b n).flights, (after b n).fates⟩ = _ := after_step (l := b) n (after_err s3 n (by omega)) (by omega)
        rw [hsa, hsb]
        dsimp only
        rw [decide_eq_true (p := (0 : Int) = 0) rfl, Bool.not_true, cond_false, cond_false]
        rw [s2, han, hbn, List.filter_append, List.map_append]
        generalize hA : List.map (fun x => x.pkt) (a.flights.filter (fun f => decide ((0 : Int) + (n : Int) < f.due ∧ f.due ≤ (0 : Int) + (n : Int) + 1))) = A
        have hlA : A.length ≤ 24 := by
          rw [← hA, List.length_map]
          exact Nat.le_trans (List.length_filter_le _ _) hl1
        generalize List.map (fun x => x.pkt) (List.filter (fun f => decide ((0 : Int) + (n : Int) < f.due ∧ f.due ≤ (0 : Int) + (n : Int) + 1)) (flightsAll 0 a.fates more)) = B
        rw [show decide (((A ++ B).length : Int) < (A.length : Int)) = false by simp; omega, cond_false]
        have htk : ((A ++ B).take ((A.length : Int).toNat)).drop ((0 : Int).toNat) = A := by simp
        rw [htk]
        refine ⟨Int.le_refl _, Int.natCast_nonneg _, by simp; omega, by show A.length ≤ 4294967296; omega, ?_⟩
        unfold F9_J6
        rw [decide_eq_true rfl, Bool.not_true, cond_false, wrap64 (by omega) (by omega)]
        exact hW hlt trivial
      · rw [show decide ((n : Int) < 9) = false by simp; omega, cond_false]
        refine ⟨trivial, ?_⟩
        rw [after_nine r3 n (by omega), after_nine s3 n (by omega)]
        exact ⟨trivial, trivial, h⟩
  refine ⟨hr.1, ?_⟩
  dsimp only
  cases h1 : shortB ps with
  | false => exact yes true (by simp)
  | true =>
    rw [Bool.not_true, cond_false]
    refine ⟨hr.2, ?_⟩
    cases h2 : shortB more with
    | false => exact yes true (by simp)
    | true =>
      rw [Bool.not_true, cond_false]
      by_cases h3 : 20 < ft.length
      · rw [show decide (20 < (ft.length : Int)) = true by simp; omega]
        exact yes true (by simp)
      · rw [show decide (20 < (ft.length : Int)) = false by simp; omega, cond_false]
        refine ⟨trivial, yes _ fun h4 => ⟨h1, h2, by omega, ?_⟩⟩
        simpa using h4
theorem u32_wf {n : Int} (h : IntKind.u32.min ≤ n ∧ n ≤ IntKind.u32.max) : 0 ≤ n ∧ n < 4294967296 := by
  simp [IntKind.min, IntKind.max, IntKind.signed, IntKind.bits] at h
  omega
theorem i64_wf {n : Int} (h : IntKind.i64.min ≤ n ∧ n ≤ IntKind.i64.max) : fits64 n := by
  simp [IntKind.min, IntKind.max, IntKind.signed, IntKind.bits] at h
  simp only [fits64]
  omega
theorem linkPlain.calls (g : prodL L6) (hw : wfL L6 g) (hb : bkL L6 g ≤ 1048576) : FCalls Try.prog 6 (argsT S6 L6 g) [] (fun r _ => r = .bool true) fun _ _ => False := by
  obtain ⟨now, ps, u⟩ := g
  refine F6_ok _ _ _ (F6_is ?_ ?_ rfl)
  · exact u32_wf hw.1
  · have := bk_len (e := .pkt) (fun x => by simp [bk]) ps
    simp only [bkL] at hb
    omega
theorem linkDelay.calls (g : prodL L8) (hw : wfL L8 g) (hb : bkL L8 g ≤ 1048576) : FCalls Try.prog 8 (argsT S8 L8 g) [] (fun r _ => r = .bool true) fun _ _ => False := by
  obtain ⟨to, data, fate, now, u⟩ := g
  refine F8_ok _ _ _ (F8_is ?_ ?_ rfl)
  · exact u32_wf hw.2.2.1
  · exact i64_wf hw.2.1
theorem linkApart.calls (g : prodL L9) (hw : wfL L9 g) (hb : bkL L9 g ≤ 1048576) : FCalls Try.prog 9 (argsT S9 L9 g) [] (fun r _ => r = .bool true) fun _ _ => False := by
  obtain ⟨ps, more, ft, u⟩ := g
  have h1 := bk_len (e := .pkt) (fun x => by simp [bk]) ps
  have h2 := bk_len (e := .pkt) (fun x => by simp [bk]) more
  simp only [bkL] at hb
  exact F9_ok _ _ _ (F9_is ⟨by omega, by omega⟩ (ft_fits hw.2.2.1) rfl)
end Go.Proofs.Ythjikjhddddplaa
