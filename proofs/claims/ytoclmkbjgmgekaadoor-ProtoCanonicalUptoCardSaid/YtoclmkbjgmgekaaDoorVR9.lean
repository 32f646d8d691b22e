import Derived.Test.YtoclmkbjgmgekaaDoorTie
import Derived.SevenTiedAt
import Derived.Test.YtoclmkbjgmgekaaDoorV6
namespace Go.Proofs.YtoclmkbjgmgekaaDoor
set_option linter.unusedVariables false
set_option linter.unusedSimpArgs false
set_option linter.unusedSectionVars false
open Go.RowKit Go.ChangeShapes
namespace protoCanonical
set_option maxRecDepth 100000 in
theorem lifted (os : Os) (started : os.Started) (H : Type) (enc : TypeId × Value → H) (F : Stop.Interp) :
    ReturnsInHanded {} Tryd.checked os 9 .any (Rows.protoCanonicalUptoRow.pre enc Tryd.prog Tryd.f9 (Rows.OpenSpec.upto Rows.protoCanonicalSpec)) (((Rows.OpenSpec.upto Rows.protoCanonicalSpec).at F).post enc Tryd.prog Tryd.f9 false true false false) := by
  rw [OpenClaim.pre_eq_preRow]
  refine returns_row (C := Tryd.checked) (s := Rows.OpenSpec.upto Rows.protoCanonicalSpec) the_knob started (by kernel_rfl) Tryd.func9
    (witness_row (s := Rows.OpenSpec.upto Rows.protoCanonicalSpec) #[.string ⟨#[]⟩] (by kernel_rfl) (x := ([.lit (.string [])], [], [])) (by kernel_rfl) (fun k e => by cases e; kernel_rfl) (by kernel_rfl)) ?_
  intro W base args ds gs before hval hW hk hl
  exact law_contract (L := L9) (S := S9) D_ok kinds_ok the_kids the_full rfl (fun ds h => by
    match ds, h with | [_], _ => rfl) rfl Tryd.underlying4 (by decide) (by kernel_rfl) (by kernel_rfl) (fun g hw hb => calls g hw (Nat.le_trans hb (bulk_le (hk _ rfl)))) hval hW (hlaid := laid_rd hl)
theorem row_holds : Rows.ProtoCanonicalUptoSaid :=
  OpenClaim.holds_of_cond 9 Tryd.f9 rfl rfl rfl rfl rfl rfl rfl ⟨rfl, rfl, rfl, rfl, rfl⟩ rfl rfl rfl rfl rfl (by kernel_rfl) Tryd.func9 (by kernel_rfl)
    (of_decide_eq_true (by kernel_rfl)) (by unfold Func.isWrapper; first | (rw [if_pos (by decide +kernel)]; kernel_rfl) | (rw [if_neg (by decide +kernel)]; exact ⟨rfl, rfl⟩))
    (fun os started H enc _ F => lifted os started H enc F)
theorem proved : Rows.ProtoCanonicalUptoCardSaid :=
  Claim7.holds_tied_plain_at .later [] [.data, .data, .data, .sentinel, .sentinel] true (true, "f6279e412ddacaa04012c16eb1eed916c68819fb8f43a1137fc6a3f033fef0be") true
    row_holds (fun _ h => by cases h) (by kernel_rfl) (fun _ h => by cases h) protoCanonicalUpto_row_tie rfl ⟨rfl, rfl⟩ (by kernel_rfl) rfl
    (fun f fn hf hfn => by
      obtain rfl : f = 9 := (Option.some.inj ((show Tryd.prog.funcNamed Rows.protoCanonicalUptoRow.func = some 9 by kernel_rfl).symm.trans hf)).symm
      obtain rfl : fn = Tryd.f9 := (Option.some.inj (Tryd.func9.symm.trans hfn)).symm
      exact ⟨by kernel_rfl, fun j t ht => by
        rw [Tryd.params9] at ht
        have hm : t ∈ [9] := by simpa using Array.mem_of_getElem? ht
        have hall : ([9].all fun u => !Tryd.prog.wantsStandIn u) = true := by kernel_rfl
        exact (show Tryd.prog.wantsStandIn t = false by simpa using List.all_eq_true.1 hall t hm)⟩)
    (by kernel_rfl)
end protoCanonical
end Go.Proofs.YtoclmkbjgmgekaaDoor
