/-
  PatchDecode: for every input whose arguments are together of bulk at most 1048576, the law returns true, and its arguments read behind the call as before; its listed variables tied to the text of the program.
-/
import Derived.Test.YtbglndogddddoaaGreatDoorTie
import Derived.SevenTiedAt
import Derived.Test.YtbglndogddddoaaGreatDoorGD7c
set_option linter.unusedVariables false
set_option linter.unusedSimpArgs false
set_option linter.unusedSectionVars false
namespace Go.Proofs.YtbglndogddddoaaGreatDoor
section
open Go.RowKit Go.ChangeShapes
namespace patchDecode
set_option maxRecDepth 100000 in
theorem qmU (os:Os) (started:os.Started) (H:Type) (enc:TypeId×Value->H) (F:Stop.Interp):
  ReturnsInHanded {} Tryz.checked os 8 .any (Rows.patchDecodeUptoRow.pre enc Tryz.prog Tryz.f8 (Rows.OpenSpec.upto Rows.patchDecodeSpec)) (((Rows.OpenSpec.upto Rows.patchDecodeSpec).at F).post enc Tryz.prog Tryz.f8 false true false false):=by
 rw [OpenClaim.pre_eq_preRow];refine qv3 (C:=Tryz.checked) (s:=Rows.OpenSpec.upto Rows.patchDecodeSpec) qVn started (by kernel_rfl) Tryz.func8
  (qvJ (s:=Rows.OpenSpec.upto Rows.patchDecodeSpec) #[.string ⟨#[]⟩] (by kernel_rfl) (x:=([.lit (.string [])],[],[])) (by kernel_rfl) (fun k e=>by cases e;kernel_rfl) (by kernel_rfl)) ?_
 intro W base args ds gs before hval hW hk hl;exact qxi (L:=L8) (S:=S8) qpk qWH qV5 qY1 (by kernel_rfl) (fun ds h=>by
  match ds,h with | [_],_=>rfl) (by kernel_rfl) Tryz.underlying4 (by decide) (by kernel_rfl) (by kernel_rfl) (fun g hw hb=>calls g hw (Jau hb (qhv (hk _ rfl)))) hval hW (hlaid:=qhy hl)
theorem qJU:Rows.PatchDecodeUptoSaid:=
 OpenClaim.holds_of_cond 8 Tryz.f8 rfl rfl rfl rfl rfl rfl rfl ⟨rfl,rfl,rfl,rfl,rfl⟩ rfl rfl rfl rfl rfl (by kernel_rfl) Tryz.func8 (by kernel_rfl)
  (Jac (by kernel_rfl)) (by unfold Func.isWrapper;first | (rw [if_pos (by decide+kernel)];kernel_rfl) | (rw [if_neg (by decide+kernel)];exact ⟨rfl,rfl⟩))
  (fun os started H enc _ F=>qmU os started H enc F)
theorem proved:Rows.PatchDecodeUptoCardSaid:=
 Claim7.holds_tied_plain_at .later [] [.data,.data,.data,.sentinel,.sentinel] true (true, "3e6b0bfc68525cab4ca07384c03ab80df4b37089eb63ca3063ebf157899b4f4e") true
  qJU (fun _ h=>by cases h) (by kernel_rfl) (fun _ h=>by cases h) patchDecodeUpto_row_tie rfl ⟨rfl,rfl⟩ (by kernel_rfl) rfl
  (fun f fn hf hfn=>by
   obtain rfl:f=8:=(Jb0 ((show Tryz.prog.funcNamed Rows.patchDecodeUptoRow.func=some 8 by kernel_rfl).symm.trans hf)).symm
   obtain rfl:fn=Tryz.f8:=(Jb0 (Tryz.func8.symm.trans hfn)).symm;exact ⟨by kernel_rfl,fun j t ht=>by
    rw [Tryz.params8] at ht;have hm:t∈[9]:=by simpa using Array.mem_of_getElem? ht
    have hall:([9].all fun u=> !Tryz.prog.wantsStandIn u)=true:=by kernel_rfl
    exact (show Tryz.prog.wantsStandIn t=false by simpa using Jbu.1 hall t hm)⟩)
  (by kernel_rfl)
end patchDecode
end
end Go.Proofs.YtbglndogddddoaaGreatDoor
