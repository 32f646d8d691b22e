/-
  LinkStep returns true for every link, and its arguments read behind the call as before, where the arguments are together of bulk at most 1048576.
-/
import Derived.Test.YthjikjhddddplaaGC
import Derived.Test.YthjikjhddddplaaRW
namespace Go.Proofs.Ythjikjhddddplaa
set_option linter.unusedVariables false
set_option linter.unusedSimpArgs false
open Go.RowKit Go.ChangeShapes
set_option linter.unusedVariables false
namespace linkStep
theorem calls (g : prodL L4) (hw : wfL L4 g) (hb : bkL L4 g ≤ 1048576) : FCalls Try.prog 4 (argsT S4 L4 g) [] (fun r _ => r = .bool true) fun _ _ => False := by
  obtain ⟨now, fl, ft, u⟩ := g
  refine F4_ok _ _ _ (F4_is ?_ rfl)
  have := bk_len (e := .flt) (fun x => by simp [bk]) fl
  simp only [bkL] at hb
  omega
set_option maxRecDepth 100000 in
theorem lifted (os : Os) (started : os.Started) (H : Type) (enc : TypeId × Value → H) (F : Stop.Interp) :
    ReturnsInHanded {} Try.checked os 4 .any ((Rows.OpenSpec.upto Rows.linkStepSpec).pre6 enc Try.prog Try.f4 Rows.linkStepUptoRow.domain false) (((Rows.OpenSpec.upto Rows.linkStepSpec).at F).post enc Try.prog Try.f4 false true false false) := by
  refine returnsInHanded_of_cond (C := Try.checked) (s := Rows.OpenSpec.upto Rows.linkStepSpec) (k := Rows.uptoSmall) rfl the_knob started (by kernel_rfl) Try.func4
    (OpenSpec.witness (enc := enc) (C := Try.checked) (s := Rows.OpenSpec.upto Rows.linkStepSpec) (k := Rows.uptoSmall) rfl false ⟨#[], #[.agg #[.int .i64 0, .slice none 0 0, .slice none 0 0]], []⟩ 8 (by kernel_rfl) (by kernel_rfl) (by kernel_rfl)
      (x := ([.agg [.lit (.int .i64 0), .nil, .nil]], [], [])) (by kernel_rfl) rfl (by kernel_rfl)) ?_
  intro W base args ds gs before hval hW _ hk _
  exact law_contract (L := L4) (S := S4) D_ok kinds_ok the_kids the_full rfl (fun ds h => by
    match ds, h with | [_], _ => rfl) rfl Try.underlying4 (by decide) (by kernel_rfl) (by kernel_rfl) (fun g hw hb => calls g hw (Nat.le_trans hb (bulk_le hk))) hval hW
theorem proved : Rows.LinkStepUptoSaid :=
  OpenClaim.holds_of_cond 4 Try.f4 rfl rfl rfl rfl rfl rfl rfl ⟨rfl, rfl, rfl, rfl, rfl⟩ rfl rfl rfl rfl rfl (by kernel_rfl) Try.func4 (by kernel_rfl)
    (of_decide_eq_true (by kernel_rfl)) (by unfold Func.isWrapper; first | (rw [if_pos (by decide +kernel)]; kernel_rfl) | (rw [if_neg (by decide +kernel)]; exact ⟨rfl, rfl⟩))
    (fun os started H enc _ F => lifted os started H enc F)
end linkStep
end Go.Proofs.Ythjikjhddddplaa
