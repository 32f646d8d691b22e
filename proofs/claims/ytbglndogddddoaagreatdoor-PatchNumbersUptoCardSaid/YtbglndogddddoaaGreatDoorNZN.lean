/-
  PatchNumbers: for every input whose arguments are together of bulk at most 1048576, the law returns true, and its arguments read behind the call as before; its listed variables tied to the text of the program.
-/
import Derived.Test.YtbglndogddddoaaGreatDoorTie
import Derived.SevenTiedAt
import Derived.Test.YtbglndogddddoaaGreatDoorN6
set_option linter.unusedVariables false
set_option linter.unusedSimpArgs false
set_option linter.unusedSectionVars false
namespace Go.Proofs.YtbglndogddddoaaGreatDoor
open Go.RowKit Go.ChangeShapes
namespace patchNumbers
set_option maxRecDepth 100000 in
theorem lifted (os:Os) (started:os.Started) (H:Type) (enc:TypeId×Value->H) (F:Stop.Interp):
  ReturnsInHanded {} Tryz.checked os 6 .any (Rows.patchNumbersUptoRow.pre enc Tryz.prog Tryz.f6 (Rows.OpenSpec.upto Rows.patchNumbersSpec)) (((Rows.OpenSpec.upto Rows.patchNumbersSpec).at F).post enc Tryz.prog Tryz.f6 false true false false):=by
 rw [OpenClaim.pre_eq_preRow]
 refine Ko (C:=Tryz.checked) (s:=Rows.OpenSpec.upto Rows.patchNumbersSpec) the_knob started (by kernel_rfl) Tryz.func6
  (qqg (s:=Rows.OpenSpec.upto Rows.patchNumbersSpec) #[.agg #[.string ⟨#[]⟩, .string ⟨#[]⟩, .int .i64 0, .slice none 0 0, .slice none 0 0]] (by kernel_rfl) (x:=([.agg [.lit (.string []), .lit (.string []), .lit (.int .i64 0), .nil, .nil]],[],[])) (by kernel_rfl) (fun k e=>by cases e;kernel_rfl) (by kernel_rfl)) ?_
 intro W base args ds gs before hval hW hk hl
 exact W0 (L:=L6) (S:=S6) DR_ok kinds_ok the_kids the_full (by kernel_rfl) (fun ds h=>by
  match ds,h with | [_],_=>rfl) (by kernel_rfl) Tryz.underlying4 (by decide) (by kernel_rfl) (by kernel_rfl) (fun g hw hb=>calls g hw (Nat.le_trans hb (bulk_le (hk _ rfl)))) hval hW (hlaid:=laid_rd hl)
theorem row_holds:Rows.PatchNumbersUptoSaid:=
 OpenClaim.holds_of_cond 6 Tryz.f6 rfl rfl rfl rfl rfl rfl rfl ⟨rfl,rfl,rfl,rfl,rfl⟩ rfl rfl rfl rfl rfl (by kernel_rfl) Tryz.func6 (by kernel_rfl)
  (of_decide_eq_true (by kernel_rfl)) (by unfold Func.isWrapper;first | (rw [if_pos (by decide+kernel)];kernel_rfl) | (rw [if_neg (by decide+kernel)];exact ⟨rfl,rfl⟩))
  (fun os started H enc _ F=>lifted os started H enc F)
theorem proved:Rows.PatchNumbersUptoCardSaid:=
 Claim7.holds_tied_plain_at .later [] [.data, .data, .data] true (true, "3e6b0bfc68525cab4ca07384c03ab80df4b37089eb63ca3063ebf157899b4f4e") true
  row_holds (fun _ h=>by cases h) (by kernel_rfl) (fun _ h=>by cases h) patchNumbersUpto_row_tie rfl ⟨rfl,rfl⟩ (by kernel_rfl) rfl
  (fun f fn hf hfn=>by
   obtain rfl:f=6:=(Option.some.inj ((show Tryz.prog.funcNamed Rows.patchNumbersUptoRow.func=some 6 by kernel_rfl).symm.trans hf)).symm
   obtain rfl:fn=Tryz.f6:=(Option.some.inj (Tryz.func6.symm.trans hfn)).symm
   exact ⟨by kernel_rfl,fun j t ht=>by
    rw [Tryz.params6] at ht
    have hm:t∈[25]:=by simpa using Array.mem_of_getElem? ht
    have hall:([25].all fun u=> !Tryz.prog.wantsStandIn u)=true:=by kernel_rfl
    exact (show Tryz.prog.wantsStandIn t=false by simpa using List.all_eq_true.1 hall t hm)⟩)
  (by kernel_rfl)
end patchNumbers
end Go.Proofs.YtbglndogddddoaaGreatDoor
