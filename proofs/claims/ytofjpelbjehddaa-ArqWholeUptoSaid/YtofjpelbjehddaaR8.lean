/-
  ArqWhole returns true for every input, and its arguments read behind the call as before, where the arguments are together of bulk at most 1048576.
-/
import Derived.Test.YtofjpelbjehddaaGG
import Derived.Test.YtofjpelbjehddaaRW
namespace Go.Proofs.Ytofjpelbjehddaa
set_option linter.unusedVariables false
set_option linter.unusedSimpArgs false
open Go.RowKit Go.ChangeShapes
namespace arqWhole
set_option maxRecDepth 100000 in
theorem lifted (os : Os) (started : os.Started) (H : Type) (enc : TypeId × Value → H) (F : Stop.Interp) :
    ReturnsInHanded {} Try.checked os 8 .any ((Rows.OpenSpec.upto Rows.arqWholeSpec).pre6 enc Try.prog Try.f8 Rows.arqWholeUptoRow.domain false) (((Rows.OpenSpec.upto Rows.arqWholeSpec).at F).post enc Try.prog Try.f8 false true false false) := by
  refine returnsInHanded_of_cond (C := Try.checked) (s := Rows.OpenSpec.upto Rows.arqWholeSpec) (k := Rows.uptoSmall) rfl the_knob started (by kernel_rfl) Try.func8
    (OpenSpec.witness (enc := enc) (C := Try.checked) (s := Rows.OpenSpec.upto Rows.arqWholeSpec) (k := Rows.uptoSmall) rfl false ⟨#[], #[.int .i64 0, .slice none 0 0], []⟩ 12 (by kernel_rfl) (by kernel_rfl) (by kernel_rfl)
      (x := ([.lit (.int .i64 0), .nil], [], [])) (by kernel_rfl) rfl (by kernel_rfl)) ?_
  intro W base args ds gs before hval hW _ hk _
  exact law_contract (L := L8) (S := S8) D_ok kinds_ok the_kids the_full rfl (fun ds h => by
    match ds, h with | [_, _], _ => rfl) rfl Try.underlying4 (by decide) (by kernel_rfl) (by kernel_rfl) (fun g hw hb => calls g hw (Nat.le_trans hb (bulk_le hk))) hval hW
theorem proved : Rows.ArqWholeUptoSaid :=
  OpenClaim.holds_of_cond 8 Try.f8 rfl rfl rfl rfl rfl rfl rfl ⟨rfl, rfl, rfl, rfl, rfl⟩ rfl rfl rfl rfl rfl (by kernel_rfl) Try.func8 (by kernel_rfl)
    (of_decide_eq_true (by kernel_rfl)) (by unfold Func.isWrapper; first | (rw [if_pos (by decide +kernel)]; kernel_rfl) | (rw [if_neg (by decide +kernel)]; exact ⟨rfl, rfl⟩))
    (fun os started H enc _ F => lifted os started H enc F)
end arqWhole
end Go.Proofs.Ytofjpelbjehddaa
