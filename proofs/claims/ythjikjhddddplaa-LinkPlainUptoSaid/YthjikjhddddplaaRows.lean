/-
  No cell of these rows narrows 'for every input' (looked for: loops, veiled, ifaces, maps, wideKeys, modest, calm, conditions, laid).
  DERIVED. THE GIVEN ROWS OF THIS SEAT. 7 by the template 'for every input the law returns true; each argument reads behind the call as it read before'; 0 by the template 'total and deterministic' (their statements: YthjikjhddddplaaTotals.lean).
  GIVEN WITH THE SEED: the statements are not yours to turn. If you find one false, say at which input.
  Laid BY PROGRAM, IN A SANDBOX (cutbox-rows.mjs): the forced cells as the released guide's own fill.sh prints them over the translation 05fe24a4cf76832e… (all of the seat's roots in one cut). By AI agents, Wed Nov 11 2026. No macro, syntax, notation, axiom, sorry.
-/
import Derived.Test.YthjikjhddddplaaChecked
import GoSem.Claim
import GoSem.ClaimJoined
import GoSem.ClaimMapViews
import Derived.JoinedTies
import Derived.KernelRfl
namespace Go.Proofs.Ythjikjhddddplaa
/- THE CELL 'sum', in the pinned program and in every row, IS THE sha256 OF THE DUMP (.gsa) THAT YthjikjhddddplaaProg.lean LOADS. Nothing in Lean hashes anything: it is a label: what it is worth is what the hold of that sum in a sandbox is worth. -/
noncomputable def Try.pinned : Pinned := { name := "ythjikjhddddplaa", sum := "05fe24a4cf76832e300be6e57154aed876b228c5e82914e41b76c9e972bc2238", checked := Try.checked }
namespace Rows
def none {H : Type} : Left H := { results := [], args := [] }

/-- 'quiltlaw46.LinkSend': WHATEVER THE INPUT: true; the input reads as it did. -/
def linkSendSpec : ChangeSpec := { name := "linkSend", fn := fun _ => fun
  | [d1, d2] => { results := [.lit (.bool true)], args := [d1, d2] }
  | _ => none }
def linkSendRow : OpenClaim := { program := "ythjikjhddddplaa", sum := "05fe24a4cf76832e300be6e57154aed876b228c5e82914e41b76c9e972bc2238", func := "quilt/quiltlaw46.LinkSend", spec := "linkSend", unfollowed := true, recurses := true, apart := false }
def LinkSendSaid : Prop := linkSendRow.holds Try.pinned (OpenSpec.ofChange linkSendSpec)

/-- ITS FALSE NEIGHBOUR: 'it returns false'. Refute it at one input. -/
def linkSendWrong : ChangeSpec := { name := "linkSend", fn := fun _ => fun
  | [d1, d2] => { results := [.lit (.bool false)], args := [d1, d2] }
  | _ => none }
def LinkSendWrongFalsely : Prop := linkSendRow.holds Try.pinned (OpenSpec.ofChange linkSendWrong)

/-- 'quiltlaw46.LinkStep': WHATEVER THE INPUT: true; the input reads as it did. -/
def linkStepSpec : ChangeSpec := { name := "linkStep", fn := fun _ => fun
  | [d] => { results := [.lit (.bool true)], args := [d] }
  | _ => none }
def linkStepRow : OpenClaim := { program := "ythjikjhddddplaa", sum := "05fe24a4cf76832e300be6e57154aed876b228c5e82914e41b76c9e972bc2238", func := "quilt/quiltlaw46.LinkStep", spec := "linkStep", unfollowed := true, recurses := true, apart := false }
def LinkStepSaid : Prop := linkStepRow.holds Try.pinned (OpenSpec.ofChange linkStepSpec)

/-- ITS FALSE NEIGHBOUR: 'it returns false'. Refute it at one input. -/
def linkStepWrong : ChangeSpec := { name := "linkStep", fn := fun _ => fun
  | [d] => { results := [.lit (.bool false)], args := [d] }
  | _ => none }
def LinkStepWrongFalsely : Prop := linkStepRow.holds Try.pinned (OpenSpec.ofChange linkStepWrong)

/-- 'quiltlaw46.LinkValid': WHATEVER THE INPUT: true; the input reads as it did. -/
def linkValidSpec : ChangeSpec := { name := "linkValid", fn := fun _ => fun
  | [d1, d2] => { results := [.lit (.bool true)], args := [d1, d2] }
  | _ => none }
def linkValidRow : OpenClaim := { program := "ythjikjhddddplaa", sum := "05fe24a4cf76832e300be6e57154aed876b228c5e82914e41b76c9e972bc2238", func := "quilt/quiltlaw46.LinkValid", spec := "linkValid", unfollowed := true, recurses := true, apart := false }
def LinkValidSaid : Prop := linkValidRow.holds Try.pinned (OpenSpec.ofChange linkValidSpec)

/-- ITS FALSE NEIGHBOUR: 'it returns false'. Refute it at one input. -/
def linkValidWrong : ChangeSpec := { name := "linkValid", fn := fun _ => fun
  | [d1, d2] => { results := [.lit (.bool false)], args := [d1, d2] }
  | _ => none }
def LinkValidWrongFalsely : Prop := linkValidRow.holds Try.pinned (OpenSpec.ofChange linkValidWrong)

/-- 'quiltlaw46.LinkPlain': WHATEVER THE INPUT: true; the input reads as it did. -/
def linkPlainSpec : ChangeSpec := { name := "linkPlain", fn := fun _ => fun
  | [d1, d2] => { results := [.lit (.bool true)], args := [d1, d2] }
  | _ => none }
def linkPlainRow : OpenClaim := { program := "ythjikjhddddplaa", sum := "05fe24a4cf76832e300be6e57154aed876b228c5e82914e41b76c9e972bc2238", func := "quilt/quiltlaw46.LinkPlain", spec := "linkPlain", unfollowed := true, recurses := true, apart := false }
def LinkPlainSaid : Prop := linkPlainRow.holds Try.pinned (OpenSpec.ofChange linkPlainSpec)

/-- ITS FALSE NEIGHBOUR: 'it returns false'. Refute it at one input. -/
def linkPlainWrong : ChangeSpec := { name := "linkPlain", fn := fun _ => fun
  | [d1, d2] => { results := [.lit (.bool false)], args := [d1, d2] }
  | _ => none }
def LinkPlainWrongFalsely : Prop := linkPlainRow.holds Try.pinned (OpenSpec.ofChange linkPlainWrong)

/-- 'quiltlaw46.LinkNothingElse': WHATEVER THE INPUT: true; the input reads as it did. -/
def linkNothingElseSpec : ChangeSpec := { name := "linkNothingElse", fn := fun _ => fun
  | [d1, d2] => { results := [.lit (.bool true)], args := [d1, d2] }
  | _ => none }
def linkNothingElseRow : OpenClaim := { program := "ythjikjhddddplaa", sum := "05fe24a4cf76832e300be6e57154aed876b228c5e82914e41b76c9e972bc2238", func := "quilt/quiltlaw46.LinkNothingElse", spec := "linkNothingElse", unfollowed := true, recurses := true, apart := false }
def LinkNothingElseSaid : Prop := linkNothingElseRow.holds Try.pinned (OpenSpec.ofChange linkNothingElseSpec)

/-- ITS FALSE NEIGHBOUR: 'it returns false'. Refute it at one input. -/
def linkNothingElseWrong : ChangeSpec := { name := "linkNothingElse", fn := fun _ => fun
  | [d1, d2] => { results := [.lit (.bool false)], args := [d1, d2] }
  | _ => none }
def LinkNothingElseWrongFalsely : Prop := linkNothingElseRow.holds Try.pinned (OpenSpec.ofChange linkNothingElseWrong)

/-- 'quiltlaw46.LinkDelay': WHATEVER THE INPUT: true; the input reads as it did. -/
def linkDelaySpec : ChangeSpec := { name := "linkDelay", fn := fun _ => fun
  | [d1, d2, d3] => { results := [.lit (.bool true)], args := [d1, d2, d3] }
  | _ => none }
def linkDelayRow : OpenClaim := { program := "ythjikjhddddplaa", sum := "05fe24a4cf76832e300be6e57154aed876b228c5e82914e41b76c9e972bc2238", func := "quilt/quiltlaw46.LinkDelay", spec := "linkDelay", unfollowed := true, recurses := true, apart := false }
def LinkDelaySaid : Prop := linkDelayRow.holds Try.pinned (OpenSpec.ofChange linkDelaySpec)

/-- ITS FALSE NEIGHBOUR: 'it returns false'. Refute it at one input. -/
def linkDelayWrong : ChangeSpec := { name := "linkDelay", fn := fun _ => fun
  | [d1, d2, d3] => { results := [.lit (.bool false)], args := [d1, d2, d3] }
  | _ => none }
def LinkDelayWrongFalsely : Prop := linkDelayRow.holds Try.pinned (OpenSpec.ofChange linkDelayWrong)

/-- 'quiltlaw46.LinkApart': WHATEVER THE INPUT: true; the input reads as it did. -/
def linkApartSpec : ChangeSpec := { name := "linkApart", fn := fun _ => fun
  | [d1, d2, d3] => { results := [.lit (.bool true)], args := [d1, d2, d3] }
  | _ => none }
def linkApartRow : OpenClaim := { program := "ythjikjhddddplaa", sum := "05fe24a4cf76832e300be6e57154aed876b228c5e82914e41b76c9e972bc2238", func := "quilt/quiltlaw46.LinkApart", spec := "linkApart", unfollowed := true, recurses := true, apart := false }
def LinkApartSaid : Prop := linkApartRow.holds Try.pinned (OpenSpec.ofChange linkApartSpec)

/-- ITS FALSE NEIGHBOUR: 'it returns false'. Refute it at one input. -/
def linkApartWrong : ChangeSpec := { name := "linkApart", fn := fun _ => fun
  | [d1, d2, d3] => { results := [.lit (.bool false)], args := [d1, d2, d3] }
  | _ => none }
def LinkApartWrongFalsely : Prop := linkApartRow.holds Try.pinned (OpenSpec.ofChange linkApartWrong)

/- THE SECOND FORM. 'bulk': how many values and letters a reading holds, each counted each time it is reached (what is shared counts as often as it is met; a slice's spare places count too). A statement '..UptoSaid' is the law's where the arguments, and the package variables that the reading takes, are together of bulk at most 1048576: NARROWER than '..Said'. Prove '..Said' where nothing that the law and all that it calls make is longer than what came in: it says more and counts as full. Else prove '..UptoSaid'. A law counts once. -/
mutual
def uptoBulk {H : Type} : DataW H → Nat
  | .lit (.string bytes) => bytes.length + 1
  | .lit _ => 1
  | .nil => 1
  | .ptr d => uptoBulk d + 1
  | .slice elems spare => uptoBulkAll elems + uptoBulkAll spare + 1
  | .agg parts => uptoBulkAll parts + 1
  | .iface _ d => uptoBulk d + 1
  | .map entries => uptoBulkEntries entries + 1
  | .held _ => 1
def uptoBulkAll {H : Type} : List (DataW H) → Nat
  | [] => 0
  | d :: r => uptoBulk d + uptoBulkAll r
def uptoBulkEntries {H : Type} : List (Lit × DataW H) → Nat
  | [] => 0
  | x :: r => uptoBulkEntry x + uptoBulkEntries r
def uptoBulkEntry {H : Type} : Lit × DataW H → Nat
  | (.string bytes, d) => bytes.length + uptoBulk d + 1
  | (_, d) => uptoBulk d + 1
 end
def uptoSmall : (H : Type) → List (DataW H) → Bool := fun _ ds => decide (uptoBulkAll ds ≤ 1048576)
def OpenSpec.upto (s : _root_.Go.ChangeSpec) : _root_.Go.OpenSpec := { _root_.Go.OpenSpec.ofChange s with cond := some uptoSmall }

/-- 'quiltlaw46.LinkSend', WHERE WHAT IT READS IS OF BULK AT MOST 1048576: true; the input reads as it did. -/
def linkSendUptoRow : OpenClaim := { program := "ythjikjhddddplaa", sum := "05fe24a4cf76832e300be6e57154aed876b228c5e82914e41b76c9e972bc2238", func := "quilt/quiltlaw46.LinkSend", spec := "linkSend", unfollowed := true, recurses := true, apart := false, narrowed := true }
def LinkSendUptoSaid : Prop := linkSendUptoRow.holds Try.pinned (OpenSpec.upto linkSendSpec)

/-- 'quiltlaw46.LinkStep', WHERE WHAT IT READS IS OF BULK AT MOST 1048576: true; the input reads as it did. -/
def linkStepUptoRow : OpenClaim := { program := "ythjikjhddddplaa", sum := "05fe24a4cf76832e300be6e57154aed876b228c5e82914e41b76c9e972bc2238", func := "quilt/quiltlaw46.LinkStep", spec := "linkStep", unfollowed := true, recurses := true, apart := false, narrowed := true }
def LinkStepUptoSaid : Prop := linkStepUptoRow.holds Try.pinned (OpenSpec.upto linkStepSpec)

/-- 'quiltlaw46.LinkValid', WHERE WHAT IT READS IS OF BULK AT MOST 1048576: true; the input reads as it did. -/
def linkValidUptoRow : OpenClaim := { program := "ythjikjhddddplaa", sum := "05fe24a4cf76832e300be6e57154aed876b228c5e82914e41b76c9e972bc2238", func := "quilt/quiltlaw46.LinkValid", spec := "linkValid", unfollowed := true, recurses := true, apart := false, narrowed := true }
def LinkValidUptoSaid : Prop := linkValidUptoRow.holds Try.pinned (OpenSpec.upto linkValidSpec)

/-- 'quiltlaw46.LinkPlain', WHERE WHAT IT READS IS OF BULK AT MOST 1048576: true; the input reads as it did. -/
def linkPlainUptoRow : OpenClaim := { program := "ythjikjhddddplaa", sum := "05fe24a4cf76832e300be6e57154aed876b228c5e82914e41b76c9e972bc2238", func := "quilt/quiltlaw46.LinkPlain", spec := "linkPlain", unfollowed := true, recurses := true, apart := false, narrowed := true }
def LinkPlainUptoSaid : Prop := linkPlainUptoRow.holds Try.pinned (OpenSpec.upto linkPlainSpec)

/-- 'quiltlaw46.LinkNothingElse', WHERE WHAT IT READS IS OF BULK AT MOST 1048576: true; the input reads as it did. -/
def linkNothingElseUptoRow : OpenClaim := { program := "ythjikjhddddplaa", sum := "05fe24a4cf76832e300be6e57154aed876b228c5e82914e41b76c9e972bc2238", func := "quilt/quiltlaw46.LinkNothingElse", spec := "linkNothingElse", unfollowed := true, recurses := true, apart := false, narrowed := true }
def LinkNothingElseUptoSaid : Prop := linkNothingElseUptoRow.holds Try.pinned (OpenSpec.upto linkNothingElseSpec)

/-- 'quiltlaw46.LinkDelay', WHERE WHAT IT READS IS OF BULK AT MOST 1048576: true; the input reads as it did. -/
def linkDelayUptoRow : OpenClaim := { program := "ythjikjhddddplaa", sum := "05fe24a4cf76832e300be6e57154aed876b228c5e82914e41b76c9e972bc2238", func := "quilt/quiltlaw46.LinkDelay", spec := "linkDelay", unfollowed := true, recurses := true, apart := false, narrowed := true }
def LinkDelayUptoSaid : Prop := linkDelayUptoRow.holds Try.pinned (OpenSpec.upto linkDelaySpec)

/-- 'quiltlaw46.LinkApart', WHERE WHAT IT READS IS OF BULK AT MOST 1048576: true; the input reads as it did. -/
def linkApartUptoRow : OpenClaim := { program := "ythjikjhddddplaa", sum := "05fe24a4cf76832e300be6e57154aed876b228c5e82914e41b76c9e972bc2238", func := "quilt/quiltlaw46.LinkApart", spec := "linkApart", unfollowed := true, recurses := true, apart := false, narrowed := true }
def LinkApartUptoSaid : Prop := linkApartUptoRow.holds Try.pinned (OpenSpec.upto linkApartSpec)

end Rows
end Go.Proofs.Ythjikjhddddplaa
