/-
  Facts of this seat's program that each row's proof asks for.
-/
import Derived.Test.YtoclmkbjgmgekaaDoorTD
import Derived.Test.YtoclmkbjgmgekaaDoorA6
namespace Go.Proofs.YtoclmkbjgmgekaaDoor
set_option linter.unusedVariables false
set_option linter.unusedSimpArgs false
set_option linter.unusedSectionVars false
open Go.RowKit Go.ChangeShapes
set_option linter.unusedVariables false

theorem kinds_ok : KindsOk D := by
  have key : D.all (fun p => match p.2.el with | some e => decide (flatL D 8 p.1 = some (lvs e)) | none => true) = true := by kernel_rfl
  intro t te e ht he
  have hm : ∀ (l : TD), tyOf l t = some te → (t, te) ∈ l := by
    intro l
    induction l with
    | nil => intro h; cases h
    | cons p r ih =>
      intro h
      obtain ⟨j, x⟩ := p
      simp only [tyOf] at h
      split at h
      · rename_i e; subst e; injection h with h; subst h; exact List.mem_cons_self
      · exact List.mem_cons_of_mem _ (ih h)
  have := List.all_eq_true.1 key _ (hm D ht)
  simp only [he] at this
  exact ⟨8, of_decide_eq_true this⟩
theorem the_kids : Kids Tryd.prog (· < Tryd.prog.types.size) := kids_rows (by kernel_rfl) (by kernel_rfl)
theorem the_full : ∀ t e, t < Tryd.prog.types.size → Tryd.prog.underlying t = some (.slice e) → 0 < Tryd.prog.cellsOf e := slices_full_of Tryd.prog (by kernel_rfl)
theorem the_knob : ownKnob Tryd.prog.godebug = none := by kernel_rfl
theorem bulk_le {H : Type} {l : List (DataW H)} (hk : Rows.uptoSmall H l = true) : Rows.uptoBulkAll l ≤ 1048576 := by
  simpa [Rows.uptoSmall] using hk
theorem bk_len {e : El} (he : ∀ x, 1 ≤ bk e x) : ∀ l : List (ty e), l.length ≤ (l.map (bk e)).sum
  | [] => Nat.le_refl _
  | x :: l => by have := he x; have := bk_len he l; simp; omega

end Go.Proofs.YtoclmkbjgmgekaaDoor
