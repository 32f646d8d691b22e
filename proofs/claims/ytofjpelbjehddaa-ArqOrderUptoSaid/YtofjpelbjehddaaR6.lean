/-
  ArqOrder returns true for every input, and its arguments read behind the call as before, where the arguments are together of bulk at most 1048576.
-/
import Derived.Test.YtofjpelbjehddaaGE
import Derived.Test.YtofjpelbjehddaaRW
namespace Go.Proofs.Ytofjpelbjehddaa
set_option linter.unusedVariables false
set_option linter.unusedSimpArgs false
open Go.RowKit Go.ChangeShapes
namespace arqOrder
set_option maxRecDepth 100000 in
theorem lifted (os : Os) (started : os.Started) (H : Type) (enc : TypeId × Value → H) (F : Stop.Interp) :
    ReturnsInHanded {} Try.checked os 6 .any ((Rows.OpenSpec.upto Rows.arqOrderSpec).pre6 enc Try.prog Try.f6 Rows.arqOrderUptoRow.domain false) (((Rows.OpenSpec.upto Rows.arqOrderSpec).at F).post enc Try.prog Try.f6 false true false false) := by
  refine returnsInHanded_of_cond (C := Try.checked) (s := Rows.OpenSpec.upto Rows.arqOrderSpec) (k := Rows.uptoSmall) rfl the_knob started (by kernel_rfl) Try.func6
    (OpenSpec.witness (enc := enc) (C := Try.checked) (s := Rows.OpenSpec.upto Rows.arqOrderSpec) (k := Rows.uptoSmall) rfl false ⟨#[], #[.slice none 0 0, .slice none 0 0], []⟩ 12 (by kernel_rfl) (by kernel_rfl) (by kernel_rfl)
      (x := ([.nil, .nil], [], [])) (by kernel_rfl) rfl (by kernel_rfl)) ?_
  intro W base args ds gs before hval hW _ hk _
  exact law_contract (L := L6) (S := S6) D_ok kinds_ok the_kids the_full rfl (fun ds h => by
    match ds, h with | [_, _], _ => rfl) rfl Try.underlying4 (by decide) (by kernel_rfl) (by kernel_rfl) (fun g hw hb => calls g hw (Nat.le_trans hb (bulk_le hk))) hval hW
theorem proved : Rows.ArqOrderUptoSaid :=
  OpenClaim.holds_of_cond 6 Try.f6 rfl rfl rfl rfl rfl rfl rfl ⟨rfl, rfl, rfl, rfl, rfl⟩ rfl rfl rfl rfl rfl (by kernel_rfl) Try.func6 (by kernel_rfl)
    (of_decide_eq_true (by kernel_rfl)) (by unfold Func.isWrapper; first | (rw [if_pos (by decide +kernel)]; kernel_rfl) | (rw [if_neg (by decide +kernel)]; exact ⟨rfl, rfl⟩))
    (fun os started H enc _ F => lifted os started H enc F)
end arqOrder
end Go.Proofs.Ytofjpelbjehddaa
