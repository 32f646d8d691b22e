import Derived.Test.YtoclmkbjgmgekaaDoorTie
import Derived.SevenTiedAt
import Derived.Test.YtoclmkbjgmgekaaDoorV6
namespace Go.Proofs.YtoclmkbjgmgekaaDoor
set_option linter.unusedVariables false
set_option linter.unusedSimpArgs false
set_option linter.unusedSectionVars false
open Go.RowKit Go.ChangeShapes
namespace protoRoundTrip
set_option maxRecDepth 100000 in
theorem lifted (os : Os) (started : os.Started) (H : Type) (enc : TypeId × Value → H) (F : Stop.Interp) :
    ReturnsInHanded {} Tryd.checked os 8 .any (Rows.protoRoundTripUptoRow.pre enc Tryd.prog Tryd.f8 (Rows.OpenSpec.upto Rows.protoRoundTripSpec)) (((Rows.OpenSpec.upto Rows.protoRoundTripSpec).at F).post enc Tryd.prog Tryd.f8 false true false false) := by
  rw [OpenClaim.pre_eq_preRow]
  refine returns_row (C := Tryd.checked) (s := Rows.OpenSpec.upto Rows.protoRoundTripSpec) the_knob started (by kernel_rfl) Tryd.func8
    (witness_row (s := Rows.OpenSpec.upto Rows.protoRoundTripSpec) #[.agg #[.int .i64 0, .string ⟨#[]⟩, .slice none 0 0, .slice none 0 0, .slice none 0 0, .slice none 0 0, .int .i64 0, .string ⟨#[]⟩, .int .i64 0, .slice none 0 0, .slice none 0 0, .slice none 0 0]] (by kernel_rfl) (x := ([.agg [.lit (.int .i64 0), .lit (.string []), .nil, .nil, .nil, .nil, .lit (.int .i64 0), .lit (.string []), .agg [.lit (.int .i64 0), .nil, .nil, .nil]]], [], [])) (by kernel_rfl) (fun k e => by cases e; kernel_rfl) (by kernel_rfl)) ?_
  intro W base args ds gs before hval hW hk hl
  exact law_contract (L := L8) (S := S8) D_ok kinds_ok the_kids the_full rfl (fun ds h => by
    match ds, h with | [_], _ => rfl) rfl Tryd.underlying4 (by decide) (by kernel_rfl) (by kernel_rfl) (fun g hw hb => calls g hw (Nat.le_trans hb (bulk_le (hk _ rfl)))) hval hW (hlaid := laid_rd hl)
theorem row_holds : Rows.ProtoRoundTripUptoSaid :=
  OpenClaim.holds_of_cond 8 Tryd.f8 rfl rfl rfl rfl rfl rfl rfl ⟨rfl, rfl, rfl, rfl, rfl⟩ rfl rfl rfl rfl rfl (by kernel_rfl) Tryd.func8 (by kernel_rfl)
    (of_decide_eq_true (by kernel_rfl)) (by unfold Func.isWrapper; first | (rw [if_pos (by decide +kernel)]; kernel_rfl) | (rw [if_neg (by decide +kernel)]; exact ⟨rfl, rfl⟩))
    (fun os started H enc _ F => lifted os started H enc F)
theorem proved : Rows.ProtoRoundTripUptoCardSaid :=
  Claim7.holds_tied_plain_at .later [] [.data, .data, .data, .sentinel, .sentinel] true (true, "f6279e412ddacaa04012c16eb1eed916c68819fb8f43a1137fc6a3f033fef0be") true
    row_holds (fun _ h => by cases h) (by kernel_rfl) (fun _ h => by cases h) protoRoundTripUpto_row_tie rfl ⟨rfl, rfl⟩ (by kernel_rfl) rfl
    (fun f fn hf hfn => by
      obtain rfl : f = 8 := (Option.some.inj ((show Tryd.prog.funcNamed Rows.protoRoundTripUptoRow.func = some 8 by kernel_rfl).symm.trans hf)).symm
      obtain rfl : fn = Tryd.f8 := (Option.some.inj (Tryd.func8.symm.trans hfn)).symm
      exact ⟨by kernel_rfl, fun j t ht => by
        rw [Tryd.params8] at ht
        have hm : t ∈ [36] := by simpa using Array.mem_of_getElem? ht
        have hall : ([36].all fun u => !Tryd.prog.wantsStandIn u) = true := by kernel_rfl
        exact (show Tryd.prog.wantsStandIn t = false by simpa using List.all_eq_true.1 hall t hm)⟩)
    (by kernel_rfl)
end protoRoundTrip
end Go.Proofs.YtoclmkbjgmgekaaDoor
