/-
  CsexpCheck returns true for every input, and its arguments read behind the call as before, where the arguments are together of bulk at most 1048576; its listed variables tied to the program's text.
-/
import Derived.Test.YtpbkhdeehlikfaaDoorT7
import Derived.Test.YtpbkhdeehlikfaaDoorRL
import Derived.Test.YtpbkhdeehlikfaaDoorTie
import Derived.SevenTiedAt
namespace Go.Proofs.YtpbkhdeehlikfaaDoor
set_option linter.unusedVariables false
set_option linter.unusedSimpArgs false
set_option linter.unusedSectionVars false
open Go.RowKit Go.ChangeShapes
namespace csexpCheck
set_option maxRecDepth 100000 in
theorem lifted (os : Os) (started : os.Started) (H : Type) (enc : TypeId × Value → H) (F : Stop.Interp) :
    ReturnsInHanded {} Tryd.checked os 6 .any (Rows.csexpCheckUptoRow.pre enc Tryd.prog Tryd.f6 (Rows.OpenSpec.upto Rows.csexpCheckSpec)) (((Rows.OpenSpec.upto Rows.csexpCheckSpec).at F).post enc Tryd.prog Tryd.f6 false true false false) := by
  rw [OpenClaim.pre_eq_preRow]
  refine returns_row (C := Tryd.checked) (s := Rows.OpenSpec.upto Rows.csexpCheckSpec) the_knob started (by kernel_rfl) Tryd.func6
    (witness_row (s := Rows.OpenSpec.upto Rows.csexpCheckSpec) #[.agg #[.bool false, .string ⟨#[]⟩, .slice none 0 0]] (by kernel_rfl) (x := ([.agg [.lit (.bool false), .lit (.string []), .nil]], [], [])) (by kernel_rfl) (fun k e => by cases e; kernel_rfl) (by kernel_rfl)) ?_
  intro W base args ds gs before hval hW hk hl
  exact law_contract (L := L6) (S := S6) D_ok kinds_ok the_kids the_full rfl (fun ds h => by
    match ds, h with | [_], _ => rfl) rfl Tryd.underlying4 (by decide) (by kernel_rfl) (by kernel_rfl) (fun g hw hb => calls g hw (Nat.le_trans hb (bulk_le (hk _ rfl)))) hval hW (hlaid := laid_rd hl)
theorem row_holds : Rows.CsexpCheckUptoSaid :=
  OpenClaim.holds_of_cond 6 Tryd.f6 rfl rfl rfl rfl rfl rfl rfl ⟨rfl, rfl, rfl, rfl, rfl⟩ rfl rfl rfl rfl rfl (by kernel_rfl) Tryd.func6 (by kernel_rfl)
    (of_decide_eq_true (by kernel_rfl)) (by unfold Func.isWrapper; first | (rw [if_pos (by decide +kernel)]; kernel_rfl) | (rw [if_neg (by decide +kernel)]; exact ⟨rfl, rfl⟩))
    (fun os started H enc _ F => lifted os started H enc F)
theorem proved : Rows.CsexpCheckUptoCardSaid :=
  Claim7.holds_tied_plain_at .later [] [.data, .data, .data, .sentinel, .sentinel] true (true, "3d830137430c2973fb6d1f969b0e6ce4965e5263e53ec918cc27a439e7208461") true
    row_holds (fun _ h => by cases h) (by kernel_rfl) (fun _ h => by cases h) csexpCheckUpto_row_tie rfl ⟨rfl, rfl⟩ (by kernel_rfl) rfl
    (fun f fn hf hfn => by
      obtain rfl : f = 6 := (Option.some.inj ((show Tryd.prog.funcNamed Rows.csexpCheckUptoRow.func = some 6 by kernel_rfl).symm.trans hf)).symm
      obtain rfl : fn = Tryd.f6 := (Option.some.inj (Tryd.func6.symm.trans hfn)).symm
      exact ⟨by kernel_rfl, fun j t ht => by
        rw [Tryd.params6] at ht
        have hm : t ∈ [25] := by simpa using Array.mem_of_getElem? ht
        have hall : ([25].all fun u => !Tryd.prog.wantsStandIn u) = true := by kernel_rfl
        exact (show Tryd.prog.wantsStandIn t = false by simpa using List.all_eq_true.1 hall t hm)⟩)
    (by kernel_rfl)
end csexpCheck
end Go.Proofs.YtpbkhdeehlikfaaDoor
