/-
  Csexp: rows whose laid variables are the powers of ten and less: the witness, and what the walk learns of them.
-/
import Derived.Test.YtoclmkbjgmgekaaDoorRW
import Derived.Test.YtoclmkbjgmgekaaDoorCards
import Derived.LaidLaws
import Derived.LaidHandle
import Derived.MakeChecks
import Derived.LaidMore
import Derived.OpenShut
import Derived.ProofKit
import Derived.Stop.Joined
import Derived.JoinedCond
namespace Go.Proofs.YtoclmkbjgmgekaaDoor
set_option linter.unusedVariables false
set_option linter.unusedSimpArgs false
set_option linter.unusedSectionVars false
open Go.RowKit Go.ChangeShapes

/-- A ROW WITH A CONDITION OF ITS OWN, AND LAID VARIABLES. -/
theorem returns_row {H : Type} {enc : TypeId × Value → H} {a : Assume} {C : Checked} {os : Os} {f : FuncId} {fn : Func} {s : OpenSpec} {F : Stop.Interp} {conds : List PathCond} {apart fresh handsOn again : Bool} {laid : List (String × DataW Unit)}
    (own : ownKnob C.prog.godebug = none) (started : os.Started) (noInit : C.prog.inits.idxOf? f = none) (hfn : C.prog.funcs[f]? = some fn)
    (witness : ∃ (w : World) (tape : Tape) (i : Input), w.os = os ∧ (w.forCall tape i).Shaped C.prog ∧ i.vars = [] ∧ Input.okWide C.prog (w.forCall tape i) .any w.heap.size f i ∧
      s.preRow enc C.prog fn conds apart laid (w.forCall tape i).memory i.args ∧ a.holds C.prog (lone (Frame.enter C.prog f i.args .normal) [] (w.forCall tape i)))
    (contract : ∀ (W : World) (base : Nat) (args : Array Value) (ds gs : List (DataW H)) (before : List MemPlace),
      (∀ (j : Nat) t v, fn.params[j]? = some t → args[j]? = some v → Value.okWide C.prog W .any base t v) →
      DataW.Whole enc C.prog fn.params.toList s.vars apart W args.toList ds gs before →
      (∀ k, s.cond = some k → k H (ds ++ gs) = true) → laidMetH C.prog laid W →
      Calls C.prog f args W fun e W' => ∃ v, e = .returned v ∧ (s.at F).post enc C.prog fn apart fresh handsOn again W args v W') :
    ReturnsInHanded a C os f .any (s.preRow enc C.prog fn conds apart laid) ((s.at F).post enc C.prog fn apart fresh handsOn again) := by
  refine returnsInHanded_of_calls own started noInit witness ?_
  intro w tape i _ _ _ hok hpre hholds
  obtain ⟨_, _, _, fn', hfn', _, _, _, _, hval⟩ := hok
  have e : fn' = fn := Option.some.inj (hfn'.symm.trans hfn)
  subst e
  obtain ⟨⟨hp, hl⟩, _⟩ := hpre
  obtain ⟨ds, gs, before, hw, hc, hkk⟩ := OpenSpec.pre_parts hp
  have hw' := DataW.Whole.of_heap (w' := w.forCall tape i) (by rfl) hw
  refine (contract (w.forCall tape i) w.heap.size i.args ds gs before hval hw' hkk (hl.of_heap (by rfl))).mono fun e W' ⟨v, he, hp⟩ => ?_
  subst he
  exact ChangeSpec.post_blind hp

def laidAll : List (String × DataW Unit) := Rows.protoEncodeUptoRow.laid
theorem door_met (os : Os) (args : Array Value) : laidMetH Tryd.prog laidAll ((World.doorLaid Tryd.prog 400 os).forCall (fun _ _ => 0) ⟨#[], args, []⟩).memory :=
  laidMetH_of_parts3 (fuel := 8) (laidMet_of_run' 8 (by kernel_rfl) (by kernel_rfl)) (by kernel_rfl) (by kernel_rfl)
theorem gPow : Tryd.prog.globalNamed "internal/strconv.uint64pow10" = some 0 := by kernel_rfl
theorem tPow : (Tryd.prog.globals[0]?).map (·.type) = some 146 := by kernel_rfl
theorem var_block {P : Program} {w : World} {n : String} {g : Nat} {cs : Array Value} (hg : P.globalNamed n = some g) (h : w.var? P n = some cs) : ∃ E fr, w.heap[g]? = some (.cells cs E fr) := by
  simp only [World.var?, hg, Option.bind_some] at h
  split at h
  · rename_i c E fr e
    simp only [Option.some.injEq] at h
    subst h
    exact ⟨_, _, e⟩
  · cases h
theorem laid_rd {W : World} (h : laidMetH Tryd.prog laidAll W) : LaidG (RdB W) := by
  rw [MakeChecks.laidMetH_plain _ _ _ (by kernel_rfl)] at h
  obtain ⟨ps, ⟨_, _, _, _, _, _, _, _, _, _, ⟨_, _, _, _, _, _, _, _, _, _, ⟨g2, t2, cs2, f2, p2, q2, hg2, ht2, hv2, hd2, _, _⟩, _⟩, _⟩, _, _⟩ := h
  obtain rfl := Option.some.inj (gPow.symm.trans hg2)
  obtain rfl := Option.some.inj (tPow.symm.trans ht2)
  obtain ⟨E2, fr2, b2⟩ := var_block hg2 hv2
  refine ⟨?_, ?_⟩
  · obtain ⟨xs, m, rfl, hx1, hlen, hn, hel⟩ := DataW.trod_array Tryd.underlying146 hd2
    have c1 : Tryd.prog.cellsOf 137 = 1 := by kernel_rfl
    have c2 : Tryd.prog.cellsOf 146 = 20 := by kernel_rfl
    rw [c2] at hlen
    simp only [Prod.mk.injEq] at hx1
    have hl : (.agg (xs.map (·.1)) : DataW Unit) = .agg ((List.range 20).map fun i => .lit (.int .u64 ((10 ^ i : Nat) : Int))) := hx1.1.symm.trans (by kernel_rfl)
    injection hl with hl
    have hsz : cs2.size = 20 := by simpa using hlen
    have key : ∀ j, j < 20 → cs2[j]? = some (.int .u64 ((10 ^ j : Nat) : Int)) := fun j hj => by
      have h1 := hel j hj
      rw [c1, Nat.mul_one] at h1
      obtain ⟨y, hy⟩ : ∃ y, xs[j]? = some y := ⟨xs[j], List.getElem?_eq_getElem (by omega)⟩
      rw [hy] at h1
      obtain ⟨n, e1, e2, _⟩ := DataW.trod_int Tryd.underlying137 h1
      have h2 := congrArg (·[j]?) hl
      simp only [List.getElem?_map, hy, Option.map_some, e2, List.getElem?_range hj] at h2
      simp only [Option.some.injEq, DataW.lit.injEq, Lit.int.injEq, true_and] at h2
      subst h2
      have h3 := congrArg (·[0]?) e1
      simp only [List.getElem?_take, List.getElem?_drop, Nat.add_zero, List.getElem?_cons_zero] at h3
      simpa using h3
    exact ⟨.mk 0 pow10s cs2 E2 fr2 b2 (fun n h => by have := congrArg List.length h; simp [pow10s] at this) (by simp [pow10s, hsz]) (fun j u x hu hx _ => by
      have hj : j < 20 := by have := (List.getElem?_eq_some_iff.1 hu).1; simpa [pow10s] using this
      rw [key j hj] at hx
      simp [pow10s, hj] at hu hx
      subst hu; subst hx
      exact .int _ _), .ex 0 20 cs2 E2 fr2 b2 hsz (by decide)⟩
  · trivial
theorem door_shaped (os : Os) (args : Array Value) : ((World.doorLaid Tryd.prog 400 os).forCall (fun _ _ => 0) ⟨#[], args, []⟩).Shaped Tryd.prog :=
  World.shaped_of_RefB (by kernel_rfl) (by kernel_rfl)
theorem witness_row {H : Type} {enc : TypeId × Value → H} {os : Os} {f : FuncId} {fn : Func} {s : OpenSpec} {apart : Bool} (args : Array Value)
    (hok : Input.okWideB Tryd.prog ((World.doorLaid Tryd.prog 400 os).forCall (fun _ _ => 0) ⟨#[], args, []⟩) f ⟨#[], args, []⟩ = true)
    {x : List (DataW H) × List (DataW H) × List MemPlace} (hx : DataW.whole enc Tryd.prog ((World.doorLaid Tryd.prog 400 os).forCall (fun _ _ => 0) ⟨#[], args, []⟩).memory fn.params.toList s.vars apart args.toList 12 = some x)
    (hkk : ∀ k, s.cond = some k → k H (x.1 ++ x.2.1) = true)
    (hsz : s.bare.sizedB enc Tryd.prog fn apart ((World.doorLaid Tryd.prog 400 os).forCall (fun _ _ => 0) ⟨#[], args, []⟩).memory args 12 = true) :
    ∃ (w : World) (tape : Tape) (i : Input), w.os = os ∧ (w.forCall tape i).Shaped Tryd.prog ∧ i.vars = [] ∧ Input.okWide Tryd.prog (w.forCall tape i) .any w.heap.size f i ∧
      s.preRow enc Tryd.prog fn [] apart laidAll (w.forCall tape i).memory i.args ∧ ({} : Assume).holds Tryd.prog (lone (Frame.enter Tryd.prog f i.args .normal) [] (w.forCall tape i)) :=
  ⟨World.doorLaid Tryd.prog 400 os, fun _ _ => 0, ⟨#[], args, []⟩, rfl, door_shaped os args, (Input.okWide_of_okWideB (base := 0) hok).1, (Input.okWide_of_okWideB hok).2, OpenSpec.preRow_of_cond 12 hx rfl hkk hsz (door_met os args), by
    simp only [Assume.holds]
    exact ⟨by simp, by simp, fun _ => Modest.zero, by simp, by simp⟩⟩
end Go.Proofs.YtoclmkbjgmgekaaDoor
