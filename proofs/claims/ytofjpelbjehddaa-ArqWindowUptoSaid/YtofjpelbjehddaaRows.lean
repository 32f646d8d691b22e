/-
  No cell of these rows narrows 'for every input' (looked for: loops, veiled, ifaces, maps, wideKeys, modest, calm, conditions, laid).
  DERIVED. THE GIVEN ROWS OF THIS SEAT. 6 by the template 'for every input the law returns true; each argument reads behind the call as it read before'; 0 by the template 'total and deterministic' (their statements: YtofjpelbjehddaaTotals.lean).
  GIVEN WITH THE SEED: the statements are not yours to turn. If you find one false, say at which input.
  Laid BY PROGRAM, IN A SANDBOX (cutbox-rows.mjs): the forced cells as the released guide's own fill.sh prints them over the translation 2764bff4a32d2998… (all of the seat's roots in one cut). By AI agents, Wed Nov 11 2026. No macro, syntax, notation, axiom, sorry.
-/
import Derived.Test.YtofjpelbjehddaaChecked
import GoSem.Claim
import GoSem.ClaimJoined
import GoSem.ClaimMapViews
import Derived.JoinedTies
import Derived.KernelRfl
namespace Go.Proofs.Ytofjpelbjehddaa
/- THE CELL 'sum', in the pinned program and in every row, IS THE sha256 OF THE DUMP (.gsa) THAT YtofjpelbjehddaaProg.lean LOADS. Nothing in Lean hashes anything: it is a label: what it is worth is what the hold of that sum in a sandbox is worth. -/
noncomputable def Try.pinned : Pinned := { name := "ytofjpelbjehddaa", sum := "2764bff4a32d2998be6456b7e7e60e2da18884852458d655007bcb5eec7f74a0", checked := Try.checked }
namespace Rows
def none {H : Type} : Left H := { results := [], args := [] }

/-- 'quiltlaw49.ArqSender': WHATEVER THE INPUT: true; the input reads as it did. -/
def arqSenderSpec : ChangeSpec := { name := "arqSender", fn := fun _ => fun
  | [d1, d2, d3] => { results := [.lit (.bool true)], args := [d1, d2, d3] }
  | _ => none }
def arqSenderRow : OpenClaim := { program := "ytofjpelbjehddaa", sum := "2764bff4a32d2998be6456b7e7e60e2da18884852458d655007bcb5eec7f74a0", func := "quilt/quiltlaw49.ArqSender", spec := "arqSender", unfollowed := true, recurses := true, apart := false }
def ArqSenderSaid : Prop := arqSenderRow.holds Try.pinned (OpenSpec.ofChange arqSenderSpec)

/-- ITS FALSE NEIGHBOUR: 'it returns false'. Refute it at one input. -/
def arqSenderWrong : ChangeSpec := { name := "arqSender", fn := fun _ => fun
  | [d1, d2, d3] => { results := [.lit (.bool false)], args := [d1, d2, d3] }
  | _ => none }
def ArqSenderWrongFalsely : Prop := arqSenderRow.holds Try.pinned (OpenSpec.ofChange arqSenderWrong)

/-- 'quiltlaw49.ArqFrames': WHATEVER THE INPUT: true; the input reads as it did. -/
def arqFramesSpec : ChangeSpec := { name := "arqFrames", fn := fun _ => fun
  | [d1, d2, d3] => { results := [.lit (.bool true)], args := [d1, d2, d3] }
  | _ => none }
def arqFramesRow : OpenClaim := { program := "ytofjpelbjehddaa", sum := "2764bff4a32d2998be6456b7e7e60e2da18884852458d655007bcb5eec7f74a0", func := "quilt/quiltlaw49.ArqFrames", spec := "arqFrames", unfollowed := true, recurses := true, apart := false }
def ArqFramesSaid : Prop := arqFramesRow.holds Try.pinned (OpenSpec.ofChange arqFramesSpec)

/-- ITS FALSE NEIGHBOUR: 'it returns false'. Refute it at one input. -/
def arqFramesWrong : ChangeSpec := { name := "arqFrames", fn := fun _ => fun
  | [d1, d2, d3] => { results := [.lit (.bool false)], args := [d1, d2, d3] }
  | _ => none }
def ArqFramesWrongFalsely : Prop := arqFramesRow.holds Try.pinned (OpenSpec.ofChange arqFramesWrong)

/-- 'quiltlaw49.ArqWindow': WHATEVER THE INPUT: true; the input reads as it did. -/
def arqWindowSpec : ChangeSpec := { name := "arqWindow", fn := fun _ => fun
  | [d1, d2, d3] => { results := [.lit (.bool true)], args := [d1, d2, d3] }
  | _ => none }
def arqWindowRow : OpenClaim := { program := "ytofjpelbjehddaa", sum := "2764bff4a32d2998be6456b7e7e60e2da18884852458d655007bcb5eec7f74a0", func := "quilt/quiltlaw49.ArqWindow", spec := "arqWindow", unfollowed := true, recurses := true, apart := false }
def ArqWindowSaid : Prop := arqWindowRow.holds Try.pinned (OpenSpec.ofChange arqWindowSpec)

/-- ITS FALSE NEIGHBOUR: 'it returns false'. Refute it at one input. -/
def arqWindowWrong : ChangeSpec := { name := "arqWindow", fn := fun _ => fun
  | [d1, d2, d3] => { results := [.lit (.bool false)], args := [d1, d2, d3] }
  | _ => none }
def ArqWindowWrongFalsely : Prop := arqWindowRow.holds Try.pinned (OpenSpec.ofChange arqWindowWrong)

/-- 'quiltlaw49.ArqOrder': WHATEVER THE INPUT: true; the input reads as it did. -/
def arqOrderSpec : ChangeSpec := { name := "arqOrder", fn := fun _ => fun
  | [d1, d2] => { results := [.lit (.bool true)], args := [d1, d2] }
  | _ => none }
def arqOrderRow : OpenClaim := { program := "ytofjpelbjehddaa", sum := "2764bff4a32d2998be6456b7e7e60e2da18884852458d655007bcb5eec7f74a0", func := "quilt/quiltlaw49.ArqOrder", spec := "arqOrder", unfollowed := true, recurses := true, apart := false }
def ArqOrderSaid : Prop := arqOrderRow.holds Try.pinned (OpenSpec.ofChange arqOrderSpec)

/-- ITS FALSE NEIGHBOUR: 'it returns false'. Refute it at one input. -/
def arqOrderWrong : ChangeSpec := { name := "arqOrder", fn := fun _ => fun
  | [d1, d2] => { results := [.lit (.bool false)], args := [d1, d2] }
  | _ => none }
def ArqOrderWrongFalsely : Prop := arqOrderRow.holds Try.pinned (OpenSpec.ofChange arqOrderWrong)

/-- 'quiltlaw49.ArqAcknowledged': WHATEVER THE INPUT: true; the input reads as it did. -/
def arqAcknowledgedSpec : ChangeSpec := { name := "arqAcknowledged", fn := fun _ => fun
  | [d1, d2] => { results := [.lit (.bool true)], args := [d1, d2] }
  | _ => none }
def arqAcknowledgedRow : OpenClaim := { program := "ytofjpelbjehddaa", sum := "2764bff4a32d2998be6456b7e7e60e2da18884852458d655007bcb5eec7f74a0", func := "quilt/quiltlaw49.ArqAcknowledged", spec := "arqAcknowledged", unfollowed := true, recurses := true, apart := false }
def ArqAcknowledgedSaid : Prop := arqAcknowledgedRow.holds Try.pinned (OpenSpec.ofChange arqAcknowledgedSpec)

/-- ITS FALSE NEIGHBOUR: 'it returns false'. Refute it at one input. -/
def arqAcknowledgedWrong : ChangeSpec := { name := "arqAcknowledged", fn := fun _ => fun
  | [d1, d2] => { results := [.lit (.bool false)], args := [d1, d2] }
  | _ => none }
def ArqAcknowledgedWrongFalsely : Prop := arqAcknowledgedRow.holds Try.pinned (OpenSpec.ofChange arqAcknowledgedWrong)

/-- 'quiltlaw49.ArqWhole': WHATEVER THE INPUT: true; the input reads as it did. -/
def arqWholeSpec : ChangeSpec := { name := "arqWhole", fn := fun _ => fun
  | [d1, d2] => { results := [.lit (.bool true)], args := [d1, d2] }
  | _ => none }
def arqWholeRow : OpenClaim := { program := "ytofjpelbjehddaa", sum := "2764bff4a32d2998be6456b7e7e60e2da18884852458d655007bcb5eec7f74a0", func := "quilt/quiltlaw49.ArqWhole", spec := "arqWhole", unfollowed := true, recurses := true, apart := false }
def ArqWholeSaid : Prop := arqWholeRow.holds Try.pinned (OpenSpec.ofChange arqWholeSpec)

/-- ITS FALSE NEIGHBOUR: 'it returns false'. Refute it at one input. -/
def arqWholeWrong : ChangeSpec := { name := "arqWhole", fn := fun _ => fun
  | [d1, d2] => { results := [.lit (.bool false)], args := [d1, d2] }
  | _ => none }
def ArqWholeWrongFalsely : Prop := arqWholeRow.holds Try.pinned (OpenSpec.ofChange arqWholeWrong)

/- THE SECOND FORM. 'bulk': how many values and letters a reading holds, each counted each time it is reached (what is shared counts as often as it is met; a slice's spare places count too). A statement '..UptoSaid' is the law's where the arguments, and the package variables that the reading takes, are together of bulk at most 1048576: NARROWER than '..Said'. Prove '..Said' where nothing that the law and all that it calls make is longer than what came in: it says more and counts as full. Else prove '..UptoSaid'. A law counts once. -/
mutual
def uptoBulk {H : Type} : DataW H → Nat
  | .lit (.string bytes) => bytes.length + 1
  | .lit _ => 1
  | .nil => 1
  | .ptr d => uptoBulk d + 1
  | .slice elems spare => uptoBulkAll elems + uptoBulkAll spare + 1
  | .agg parts => uptoBulkAll parts + 1
  | .iface _ d => uptoBulk d + 1
  | .map entries => uptoBulkEntries entries + 1
  | .held _ => 1
def uptoBulkAll {H : Type} : List (DataW H) → Nat
  | [] => 0
  | d :: r => uptoBulk d + uptoBulkAll r
def uptoBulkEntries {H : Type} : List (Lit × DataW H) → Nat
  | [] => 0
  | x :: r => uptoBulkEntry x + uptoBulkEntries r
def uptoBulkEntry {H : Type} : Lit × DataW H → Nat
  | (.string bytes, d) => bytes.length + uptoBulk d + 1
  | (_, d) => uptoBulk d + 1
 end
def uptoSmall : (H : Type) → List (DataW H) → Bool := fun _ ds => decide (uptoBulkAll ds ≤ 1048576)
def OpenSpec.upto (s : _root_.Go.ChangeSpec) : _root_.Go.OpenSpec := { _root_.Go.OpenSpec.ofChange s with cond := some uptoSmall }

/-- 'quiltlaw49.ArqSender', WHERE WHAT IT READS IS OF BULK AT MOST 1048576: true; the input reads as it did. -/
def arqSenderUptoRow : OpenClaim := { program := "ytofjpelbjehddaa", sum := "2764bff4a32d2998be6456b7e7e60e2da18884852458d655007bcb5eec7f74a0", func := "quilt/quiltlaw49.ArqSender", spec := "arqSender", unfollowed := true, recurses := true, apart := false, narrowed := true }
def ArqSenderUptoSaid : Prop := arqSenderUptoRow.holds Try.pinned (OpenSpec.upto arqSenderSpec)

/-- 'quiltlaw49.ArqFrames', WHERE WHAT IT READS IS OF BULK AT MOST 1048576: true; the input reads as it did. -/
def arqFramesUptoRow : OpenClaim := { program := "ytofjpelbjehddaa", sum := "2764bff4a32d2998be6456b7e7e60e2da18884852458d655007bcb5eec7f74a0", func := "quilt/quiltlaw49.ArqFrames", spec := "arqFrames", unfollowed := true, recurses := true, apart := false, narrowed := true }
def ArqFramesUptoSaid : Prop := arqFramesUptoRow.holds Try.pinned (OpenSpec.upto arqFramesSpec)

/-- 'quiltlaw49.ArqWindow', WHERE WHAT IT READS IS OF BULK AT MOST 1048576: true; the input reads as it did. -/
def arqWindowUptoRow : OpenClaim := { program := "ytofjpelbjehddaa", sum := "2764bff4a32d2998be6456b7e7e60e2da18884852458d655007bcb5eec7f74a0", func := "quilt/quiltlaw49.ArqWindow", spec := "arqWindow", unfollowed := true, recurses := true, apart := false, narrowed := true }
def ArqWindowUptoSaid : Prop := arqWindowUptoRow.holds Try.pinned (OpenSpec.upto arqWindowSpec)

/-- 'quiltlaw49.ArqOrder', WHERE WHAT IT READS IS OF BULK AT MOST 1048576: true; the input reads as it did. -/
def arqOrderUptoRow : OpenClaim := { program := "ytofjpelbjehddaa", sum := "2764bff4a32d2998be6456b7e7e60e2da18884852458d655007bcb5eec7f74a0", func := "quilt/quiltlaw49.ArqOrder", spec := "arqOrder", unfollowed := true, recurses := true, apart := false, narrowed := true }
def ArqOrderUptoSaid : Prop := arqOrderUptoRow.holds Try.pinned (OpenSpec.upto arqOrderSpec)

/-- 'quiltlaw49.ArqAcknowledged', WHERE WHAT IT READS IS OF BULK AT MOST 1048576: true; the input reads as it did. -/
def arqAcknowledgedUptoRow : OpenClaim := { program := "ytofjpelbjehddaa", sum := "2764bff4a32d2998be6456b7e7e60e2da18884852458d655007bcb5eec7f74a0", func := "quilt/quiltlaw49.ArqAcknowledged", spec := "arqAcknowledged", unfollowed := true, recurses := true, apart := false, narrowed := true }
def ArqAcknowledgedUptoSaid : Prop := arqAcknowledgedUptoRow.holds Try.pinned (OpenSpec.upto arqAcknowledgedSpec)

/-- 'quiltlaw49.ArqWhole', WHERE WHAT IT READS IS OF BULK AT MOST 1048576: true; the input reads as it did. -/
def arqWholeUptoRow : OpenClaim := { program := "ytofjpelbjehddaa", sum := "2764bff4a32d2998be6456b7e7e60e2da18884852458d655007bcb5eec7f74a0", func := "quilt/quiltlaw49.ArqWhole", spec := "arqWhole", unfollowed := true, recurses := true, apart := false, narrowed := true }
def ArqWholeUptoSaid : Prop := arqWholeUptoRow.holds Try.pinned (OpenSpec.upto arqWholeSpec)

end Rows
end Go.Proofs.Ytofjpelbjehddaa
