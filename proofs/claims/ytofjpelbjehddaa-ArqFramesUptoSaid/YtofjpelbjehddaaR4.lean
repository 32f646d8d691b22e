/-
  ArqFrames returns true for every input, and its arguments read behind the call as before, where the arguments are together of bulk at most 1048576.
-/
import Derived.Test.YtofjpelbjehddaaGB
import Derived.Test.YtofjpelbjehddaaRW
namespace Go.Proofs.Ytofjpelbjehddaa
set_option linter.unusedVariables false
set_option linter.unusedSimpArgs false
open Go.RowKit Go.ChangeShapes
namespace arqFrames
set_option maxRecDepth 100000 in
theorem lifted (os : Os) (started : os.Started) (H : Type) (enc : TypeId × Value → H) (F : Stop.Interp) :
    ReturnsInHanded {} Try.checked os 4 .any ((Rows.OpenSpec.upto Rows.arqFramesSpec).pre6 enc Try.prog Try.f4 Rows.arqFramesUptoRow.domain false) (((Rows.OpenSpec.upto Rows.arqFramesSpec).at F).post enc Try.prog Try.f4 false true false false) := by
  refine returnsInHanded_of_cond (C := Try.checked) (s := Rows.OpenSpec.upto Rows.arqFramesSpec) (k := Rows.uptoSmall) rfl the_knob started (by kernel_rfl) Try.func4
    (OpenSpec.witness (enc := enc) (C := Try.checked) (s := Rows.OpenSpec.upto Rows.arqFramesSpec) (k := Rows.uptoSmall) rfl false ⟨#[], #[.agg #[.int .i64 0, .int .i64 0, .slice none 0 0, .slice none 0 0], .agg #[.int .i64 0, .slice none 0 0, .slice none 0 0], .agg #[.bool false, .int .i64 0, .string ⟨#[]⟩]], []⟩ 12 (by kernel_rfl) (by kernel_rfl) (by kernel_rfl)
      (x := ([.agg [.lit (.int .i64 0), .lit (.int .i64 0), .nil, .nil], .agg [.lit (.int .i64 0), .nil, .nil], .agg [.lit (.bool false), .lit (.int .i64 0), .lit (.string [])]], [], [])) (by kernel_rfl) rfl (by kernel_rfl)) ?_
  intro W base args ds gs before hval hW _ hk _
  exact law_contract (L := L4) (S := S4) D_ok kinds_ok the_kids the_full rfl (fun ds h => by
    match ds, h with | [_, _, _], _ => rfl) rfl Try.underlying4 (by decide) (by kernel_rfl) (by kernel_rfl) (fun g hw hb => calls g hw (Nat.le_trans hb (bulk_le hk))) hval hW
theorem proved : Rows.ArqFramesUptoSaid :=
  OpenClaim.holds_of_cond 4 Try.f4 rfl rfl rfl rfl rfl rfl rfl ⟨rfl, rfl, rfl, rfl, rfl⟩ rfl rfl rfl rfl rfl (by kernel_rfl) Try.func4 (by kernel_rfl)
    (of_decide_eq_true (by kernel_rfl)) (by unfold Func.isWrapper; first | (rw [if_pos (by decide +kernel)]; kernel_rfl) | (rw [if_neg (by decide +kernel)]; exact ⟨rfl, rfl⟩))
    (fun os started H enc _ F => lifted os started H enc F)
end arqFrames
end Go.Proofs.Ytofjpelbjehddaa
