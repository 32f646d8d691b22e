/-
  ArqCodec returns true for every input, and its arguments read behind the call as before, where the arguments are together of bulk at most 1048576; its listed variables tied to the program's text.
-/
import Derived.Test.YtofjpelbjehddaaDoorK4
import Derived.Test.YtofjpelbjehddaaDoorRL
import Derived.Test.YtofjpelbjehddaaDoorTie
import Derived.SevenTiedAt
namespace Go.Proofs.YtofjpelbjehddaaDoor
set_option linter.unusedVariables false
set_option linter.unusedSimpArgs false
set_option linter.unusedSectionVars false
open Go.RowKit Go.ChangeShapes
namespace arqCodec
set_option maxRecDepth 100000 in
theorem lifted (os : Os) (started : os.Started) (H : Type) (enc : TypeId × Value → H) (F : Stop.Interp) :
    ReturnsInHanded {} Tryd.checked os 3 .any (Rows.arqCodecUptoRow.pre enc Tryd.prog Tryd.f3 (Rows.OpenSpec.upto Rows.arqCodecSpec)) (((Rows.OpenSpec.upto Rows.arqCodecSpec).at F).post enc Tryd.prog Tryd.f3 false true false false) := by
  rw [OpenClaim.pre_eq_preRow]
  refine returns_row (C := Tryd.checked) (s := Rows.OpenSpec.upto Rows.arqCodecSpec) the_knob started (by kernel_rfl) Tryd.func3
    (witness_row (s := Rows.OpenSpec.upto Rows.arqCodecSpec) #[.agg #[.bool false, .int .i64 0, .string ⟨#[]⟩], .string ⟨#[]⟩] (by kernel_rfl) (x := ([.agg [.lit (.bool false), .lit (.int .i64 0), .lit (.string [])], .lit (.string [])], [], [])) (by kernel_rfl) (fun k e => by cases e; kernel_rfl) (by kernel_rfl)) ?_
  intro W base args ds gs before hval hW hk hl
  exact law_contract (L := L3) (S := S3) D_ok kinds_ok the_kids the_full rfl (fun ds h => by
    match ds, h with | [_, _], _ => rfl) rfl Tryd.underlying4 (by decide) (by kernel_rfl) (by kernel_rfl) (fun g hw hb => calls g hw (Nat.le_trans hb (bulk_le (hk _ rfl)))) hval hW (hlaid := laid_rd hl)
theorem row_holds : Rows.ArqCodecUptoSaid :=
  OpenClaim.holds_of_cond 3 Tryd.f3 rfl rfl rfl rfl rfl rfl rfl ⟨rfl, rfl, rfl, rfl, rfl⟩ rfl rfl rfl rfl rfl (by kernel_rfl) Tryd.func3 (by kernel_rfl)
    (of_decide_eq_true (by kernel_rfl)) (by unfold Func.isWrapper; first | (rw [if_pos (by decide +kernel)]; kernel_rfl) | (rw [if_neg (by decide +kernel)]; exact ⟨rfl, rfl⟩))
    (fun os started H enc _ F => lifted os started H enc F)
theorem proved : Rows.ArqCodecUptoCardSaid :=
  Claim7.holds_tied_plain_at .later [] [.data, .data, .data, .sentinel, .sentinel] true (true, "a011087896470f06db61b59c40161cf12f5eb15301c6098f2d1434dbf085ecad") true
    row_holds (fun _ h => by cases h) (by kernel_rfl) (fun _ h => by cases h) arqCodecUpto_row_tie rfl ⟨rfl, rfl⟩ (by kernel_rfl) rfl
    (fun f fn hf hfn => by
      obtain rfl : f = 3 := (Option.some.inj ((show Tryd.prog.funcNamed Rows.arqCodecUptoRow.func = some 3 by kernel_rfl).symm.trans hf)).symm
      obtain rfl : fn = Tryd.f3 := (Option.some.inj (Tryd.func3.symm.trans hfn)).symm
      exact ⟨by kernel_rfl, fun j t ht => by
        rw [Tryd.params3] at ht
        have hm : t ∈ [23, 9] := by simpa using Array.mem_of_getElem? ht
        have hall : ([23, 9].all fun u => !Tryd.prog.wantsStandIn u) = true := by kernel_rfl
        exact (show Tryd.prog.wantsStandIn t = false by simpa using List.all_eq_true.1 hall t hm)⟩)
    (by kernel_rfl)
end arqCodec
end Go.Proofs.YtofjpelbjehddaaDoor
