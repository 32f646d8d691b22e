/-
  NARROWER THAN 'FOR EVERY INPUT', by the rows' own cells (each row's printed sentence says how): ProtoBatches: laid · ProtoDifferent: laid · ProtoParts: laid · ProtoEncode: laid · ProtoFields: laid · ProtoRoundTrip: laid · ProtoCanonical: laid.
  DERIVED. THE GIVEN ROWS OF THIS SEAT. 7 by the template 'for every input the law returns true; each argument reads behind the call as it read before'; 0 by the template 'total and deterministic' (their statements: YtoclmkbjgmgekaaDoorTotals.lean).
  GIVEN WITH THE SEED: the statements are not yours to turn. If you find one false, say at which input.
  Laid BY PROGRAM, IN A SANDBOX (cutbox-rows.mjs): the forced cells as the released guide's own fill.sh prints them over the translation 583a4e23d4f953e3… (all of the seat's roots in one cut). By AI agents, Wed Nov 11 2026. No macro, syntax, notation, axiom, sorry.
-/
import Derived.Test.YtoclmkbjgmgekaaDoorChecked
import GoSem.Claim
import GoSem.ClaimJoined
import GoSem.ClaimMapViews
import Derived.JoinedTies
import Derived.KernelRfl
namespace Go.Proofs.YtoclmkbjgmgekaaDoor
/- THE CELL 'sum', in the pinned program and in every row, IS THE sha256 OF THE DUMP (.gsa) THAT YtoclmkbjgmgekaaDoorProg.lean LOADS. Nothing in Lean hashes anything: it is a label: what it is worth is what the hold of that sum in a sandbox is worth. -/
noncomputable def Tryd.pinned : Pinned := { name := "ytoclmkbjgmgekaadoor", sum := "583a4e23d4f953e32a317292c1ad771436770e3542b94e2c17b20bd74ea7dae3", checked := Tryd.checked }
namespace Rows
def none {H : Type} : Left H := { results := [], args := [] }

/- WHAT THE LISTED PACKAGE-LEVEL VARIABLES READ AS WHEN THE CALL BEGINS. Each datum BY PROGRAM (the guide's laid-datum.mjs) off the statement by which the dump's own 'gosem.cut.vars' lays the variable. In a bare row this is a premise. The card (YtoclmkbjgmgekaaDoorCards.lean) ties it to the program's text. -/
def laid_math_bits_deBruijn32tab {H : Type} : DataW H := .agg [.lit (.int .u8 0), .lit (.int .u8 1), .lit (.int .u8 28), .lit (.int .u8 2), .lit (.int .u8 29), .lit (.int .u8 14), .lit (.int .u8 24), .lit (.int .u8 3), .lit (.int .u8 30), .lit (.int .u8 22), .lit (.int .u8 20), .lit (.int .u8 15), .lit (.int .u8 25), .lit (.int .u8 17), .lit (.int .u8 4), .lit (.int .u8 8), .lit (.int .u8 31), .lit (.int .u8 27), .lit (.int .u8 13), .lit (.int .u8 23), .lit (.int .u8 21), .lit (.int .u8 19), .lit (.int .u8 16), .lit (.int .u8 7), .lit (.int .u8 26), .lit (.int .u8 12), .lit (.int .u8 18), .lit (.int .u8 6), .lit (.int .u8 11), .lit (.int .u8 5), .lit (.int .u8 10), .lit (.int .u8 9)]
def laid_math_bits_deBruijn64tab {H : Type} : DataW H := .agg [.lit (.int .u8 0), .lit (.int .u8 1), .lit (.int .u8 56), .lit (.int .u8 2), .lit (.int .u8 57), .lit (.int .u8 49), .lit (.int .u8 28), .lit (.int .u8 3), .lit (.int .u8 61), .lit (.int .u8 58), .lit (.int .u8 42), .lit (.int .u8 50), .lit (.int .u8 38), .lit (.int .u8 29), .lit (.int .u8 17), .lit (.int .u8 4), .lit (.int .u8 62), .lit (.int .u8 47), .lit (.int .u8 59), .lit (.int .u8 36), .lit (.int .u8 45), .lit (.int .u8 43), .lit (.int .u8 51), .lit (.int .u8 22), .lit (.int .u8 53), .lit (.int .u8 39), .lit (.int .u8 33), .lit (.int .u8 30), .lit (.int .u8 24), .lit (.int .u8 18), .lit (.int .u8 12), .lit (.int .u8 5), .lit (.int .u8 63), .lit (.int .u8 55), .lit (.int .u8 48), .lit (.int .u8 27), .lit (.int .u8 60), .lit (.int .u8 41), .lit (.int .u8 37), .lit (.int .u8 16), .lit (.int .u8 46), .lit (.int .u8 35), .lit (.int .u8 44), .lit (.int .u8 21), .lit (.int .u8 52), .lit (.int .u8 32), .lit (.int .u8 23), .lit (.int .u8 11), .lit (.int .u8 54), .lit (.int .u8 26), .lit (.int .u8 40), .lit (.int .u8 15), .lit (.int .u8 34), .lit (.int .u8 20), .lit (.int .u8 31), .lit (.int .u8 10), .lit (.int .u8 25), .lit (.int .u8 14), .lit (.int .u8 19), .lit (.int .u8 9), .lit (.int .u8 13), .lit (.int .u8 8), .lit (.int .u8 7), .lit (.int .u8 6)]
def laid_internal_strconv_uint64pow10 {H : Type} : DataW H := .agg [.lit (.int .u64 1), .lit (.int .u64 10), .lit (.int .u64 100), .lit (.int .u64 1000), .lit (.int .u64 10000), .lit (.int .u64 100000), .lit (.int .u64 1000000), .lit (.int .u64 10000000), .lit (.int .u64 100000000), .lit (.int .u64 1000000000), .lit (.int .u64 10000000000), .lit (.int .u64 100000000000), .lit (.int .u64 1000000000000), .lit (.int .u64 10000000000000), .lit (.int .u64 100000000000000), .lit (.int .u64 1000000000000000), .lit (.int .u64 10000000000000000), .lit (.int .u64 100000000000000000), .lit (.int .u64 1000000000000000000), .lit (.int .u64 10000000000000000000)]
def laid_strconv_ErrRange {H : Type} : DataW H := .iface "*errors.errorString" (.ptr (.agg [.lit (.string [118, 97, 108, 117, 101, 32, 111, 117, 116, 32, 111, 102, 32, 114, 97, 110, 103, 101])]))
def laid_strconv_ErrSyntax {H : Type} : DataW H := .iface "*errors.errorString" (.ptr (.agg [.lit (.string [105, 110, 118, 97, 108, 105, 100, 32, 115, 121, 110, 116, 97, 120])]))

/-- 'quiltlaw50.ProtoBatches': WHATEVER THE INPUT: true; the input reads as it did. -/
def protoBatchesSpec : ChangeSpec := { name := "protoBatches", fn := fun _ => fun
  | [d1, d2] => { results := [.lit (.bool true)], args := [d1, d2] }
  | _ => none }
def protoBatchesRow : OpenClaim := { program := "ytoclmkbjgmgekaadoor", sum := "583a4e23d4f953e32a317292c1ad771436770e3542b94e2c17b20bd74ea7dae3", func := "quilt/quiltlaw50.ProtoBatches", spec := "protoBatches", inPlace := ["internal/abi.NoEscape"], recurses := true, named := ["internal/strconv.uint64pow10", "math/bits.deBruijn32tab", "math/bits.deBruijn64tab"], apart := false, laid := [("math/bits.deBruijn32tab", laid_math_bits_deBruijn32tab), ("math/bits.deBruijn64tab", laid_math_bits_deBruijn64tab), ("internal/strconv.uint64pow10", laid_internal_strconv_uint64pow10)] }
def ProtoBatchesSaid : Prop := protoBatchesRow.holds Tryd.pinned (OpenSpec.ofChange protoBatchesSpec)

/-- ITS FALSE NEIGHBOUR: 'it returns false'. Refute it at one input. -/
def protoBatchesWrong : ChangeSpec := { name := "protoBatches", fn := fun _ => fun
  | [d1, d2] => { results := [.lit (.bool false)], args := [d1, d2] }
  | _ => none }
def ProtoBatchesWrongFalsely : Prop := protoBatchesRow.holds Tryd.pinned (OpenSpec.ofChange protoBatchesWrong)

/-- 'quiltlaw50.ProtoDifferent': WHATEVER THE INPUT: true; the input reads as it did. -/
def protoDifferentSpec : ChangeSpec := { name := "protoDifferent", fn := fun _ => fun
  | [d1, d2] => { results := [.lit (.bool true)], args := [d1, d2] }
  | _ => none }
def protoDifferentRow : OpenClaim := { program := "ytoclmkbjgmgekaadoor", sum := "583a4e23d4f953e32a317292c1ad771436770e3542b94e2c17b20bd74ea7dae3", func := "quilt/quiltlaw50.ProtoDifferent", spec := "protoDifferent", inPlace := ["internal/abi.NoEscape"], recurses := true, named := ["internal/strconv.uint64pow10", "math/bits.deBruijn32tab", "math/bits.deBruijn64tab"], apart := false, laid := [("math/bits.deBruijn32tab", laid_math_bits_deBruijn32tab), ("math/bits.deBruijn64tab", laid_math_bits_deBruijn64tab), ("internal/strconv.uint64pow10", laid_internal_strconv_uint64pow10)] }
def ProtoDifferentSaid : Prop := protoDifferentRow.holds Tryd.pinned (OpenSpec.ofChange protoDifferentSpec)

/-- ITS FALSE NEIGHBOUR: 'it returns false'. Refute it at one input. -/
def protoDifferentWrong : ChangeSpec := { name := "protoDifferent", fn := fun _ => fun
  | [d1, d2] => { results := [.lit (.bool false)], args := [d1, d2] }
  | _ => none }
def ProtoDifferentWrongFalsely : Prop := protoDifferentRow.holds Tryd.pinned (OpenSpec.ofChange protoDifferentWrong)

/-- 'quiltlaw50.ProtoParts': WHATEVER THE INPUT: true; the input reads as it did. -/
def protoPartsSpec : ChangeSpec := { name := "protoParts", fn := fun _ => fun
  | [d1, d2] => { results := [.lit (.bool true)], args := [d1, d2] }
  | _ => none }
def protoPartsRow : OpenClaim := { program := "ytoclmkbjgmgekaadoor", sum := "583a4e23d4f953e32a317292c1ad771436770e3542b94e2c17b20bd74ea7dae3", func := "quilt/quiltlaw50.ProtoParts", spec := "protoParts", inPlace := ["internal/abi.NoEscape"], recurses := true, named := ["internal/strconv.uint64pow10", "math/bits.deBruijn32tab", "math/bits.deBruijn64tab"], apart := false, laid := [("math/bits.deBruijn32tab", laid_math_bits_deBruijn32tab), ("math/bits.deBruijn64tab", laid_math_bits_deBruijn64tab), ("internal/strconv.uint64pow10", laid_internal_strconv_uint64pow10)] }
def ProtoPartsSaid : Prop := protoPartsRow.holds Tryd.pinned (OpenSpec.ofChange protoPartsSpec)

/-- ITS FALSE NEIGHBOUR: 'it returns false'. Refute it at one input. -/
def protoPartsWrong : ChangeSpec := { name := "protoParts", fn := fun _ => fun
  | [d1, d2] => { results := [.lit (.bool false)], args := [d1, d2] }
  | _ => none }
def ProtoPartsWrongFalsely : Prop := protoPartsRow.holds Tryd.pinned (OpenSpec.ofChange protoPartsWrong)

/-- 'quiltlaw50.ProtoEncode': WHATEVER THE INPUT: true; the input reads as it did. -/
def protoEncodeSpec : ChangeSpec := { name := "protoEncode", fn := fun _ => fun
  | [d] => { results := [.lit (.bool true)], args := [d] }
  | _ => none }
def protoEncodeRow : OpenClaim := { program := "ytoclmkbjgmgekaadoor", sum := "583a4e23d4f953e32a317292c1ad771436770e3542b94e2c17b20bd74ea7dae3", func := "quilt/quiltlaw50.ProtoEncode", spec := "protoEncode", inPlace := ["internal/abi.NoEscape"], recurses := true, named := ["internal/strconv.uint64pow10", "math/bits.deBruijn32tab", "math/bits.deBruijn64tab"], apart := false, laid := [("math/bits.deBruijn32tab", laid_math_bits_deBruijn32tab), ("math/bits.deBruijn64tab", laid_math_bits_deBruijn64tab), ("internal/strconv.uint64pow10", laid_internal_strconv_uint64pow10)] }
def ProtoEncodeSaid : Prop := protoEncodeRow.holds Tryd.pinned (OpenSpec.ofChange protoEncodeSpec)

/-- ITS FALSE NEIGHBOUR: 'it returns false'. Refute it at one input. -/
def protoEncodeWrong : ChangeSpec := { name := "protoEncode", fn := fun _ => fun
  | [d] => { results := [.lit (.bool false)], args := [d] }
  | _ => none }
def ProtoEncodeWrongFalsely : Prop := protoEncodeRow.holds Tryd.pinned (OpenSpec.ofChange protoEncodeWrong)

/-- 'quiltlaw50.ProtoFields': WHATEVER THE INPUT: true; the input reads as it did. -/
def protoFieldsSpec : ChangeSpec := { name := "protoFields", fn := fun _ => fun
  | [d1, d2] => { results := [.lit (.bool true)], args := [d1, d2] }
  | _ => none }
def protoFieldsRow : OpenClaim := { program := "ytoclmkbjgmgekaadoor", sum := "583a4e23d4f953e32a317292c1ad771436770e3542b94e2c17b20bd74ea7dae3", func := "quilt/quiltlaw50.ProtoFields", spec := "protoFields", inPlace := ["internal/abi.NoEscape"], recurses := true, named := ["internal/strconv.uint64pow10", "math/bits.deBruijn32tab", "math/bits.deBruijn64tab"], apart := false, laid := [("math/bits.deBruijn32tab", laid_math_bits_deBruijn32tab), ("math/bits.deBruijn64tab", laid_math_bits_deBruijn64tab), ("internal/strconv.uint64pow10", laid_internal_strconv_uint64pow10)] }
def ProtoFieldsSaid : Prop := protoFieldsRow.holds Tryd.pinned (OpenSpec.ofChange protoFieldsSpec)

/-- ITS FALSE NEIGHBOUR: 'it returns false'. Refute it at one input. -/
def protoFieldsWrong : ChangeSpec := { name := "protoFields", fn := fun _ => fun
  | [d1, d2] => { results := [.lit (.bool false)], args := [d1, d2] }
  | _ => none }
def ProtoFieldsWrongFalsely : Prop := protoFieldsRow.holds Tryd.pinned (OpenSpec.ofChange protoFieldsWrong)

/-- 'quiltlaw50.ProtoRoundTrip': WHATEVER THE INPUT: true; the input reads as it did. -/
def protoRoundTripSpec : ChangeSpec := { name := "protoRoundTrip", fn := fun _ => fun
  | [d] => { results := [.lit (.bool true)], args := [d] }
  | _ => none }
def protoRoundTripRow : OpenClaim := { program := "ytoclmkbjgmgekaadoor", sum := "583a4e23d4f953e32a317292c1ad771436770e3542b94e2c17b20bd74ea7dae3", func := "quilt/quiltlaw50.ProtoRoundTrip", spec := "protoRoundTrip", inPlace := ["internal/abi.NoEscape"], unfollowed := true, recurses := true, named := ["internal/strconv.uint64pow10", "math/bits.deBruijn32tab", "math/bits.deBruijn64tab", "strconv.ErrSyntax", "strconv.ErrRange"], apart := false, laid := [("math/bits.deBruijn32tab", laid_math_bits_deBruijn32tab), ("math/bits.deBruijn64tab", laid_math_bits_deBruijn64tab), ("internal/strconv.uint64pow10", laid_internal_strconv_uint64pow10), ("strconv.ErrRange", laid_strconv_ErrRange), ("strconv.ErrSyntax", laid_strconv_ErrSyntax)] }
def ProtoRoundTripSaid : Prop := protoRoundTripRow.holds Tryd.pinned (OpenSpec.ofChange protoRoundTripSpec)

/-- ITS FALSE NEIGHBOUR: 'it returns false'. Refute it at one input. -/
def protoRoundTripWrong : ChangeSpec := { name := "protoRoundTrip", fn := fun _ => fun
  | [d] => { results := [.lit (.bool false)], args := [d] }
  | _ => none }
def ProtoRoundTripWrongFalsely : Prop := protoRoundTripRow.holds Tryd.pinned (OpenSpec.ofChange protoRoundTripWrong)

/-- 'quiltlaw50.ProtoCanonical': WHATEVER THE INPUT: true; the input reads as it did. -/
def protoCanonicalSpec : ChangeSpec := { name := "protoCanonical", fn := fun _ => fun
  | [d] => { results := [.lit (.bool true)], args := [d] }
  | _ => none }
def protoCanonicalRow : OpenClaim := { program := "ytoclmkbjgmgekaadoor", sum := "583a4e23d4f953e32a317292c1ad771436770e3542b94e2c17b20bd74ea7dae3", func := "quilt/quiltlaw50.ProtoCanonical", spec := "protoCanonical", inPlace := ["internal/abi.NoEscape"], unfollowed := true, recurses := true, named := ["internal/strconv.uint64pow10", "math/bits.deBruijn32tab", "math/bits.deBruijn64tab", "strconv.ErrSyntax", "strconv.ErrRange"], apart := false, laid := [("math/bits.deBruijn32tab", laid_math_bits_deBruijn32tab), ("math/bits.deBruijn64tab", laid_math_bits_deBruijn64tab), ("internal/strconv.uint64pow10", laid_internal_strconv_uint64pow10), ("strconv.ErrRange", laid_strconv_ErrRange), ("strconv.ErrSyntax", laid_strconv_ErrSyntax)] }
def ProtoCanonicalSaid : Prop := protoCanonicalRow.holds Tryd.pinned (OpenSpec.ofChange protoCanonicalSpec)

/-- ITS FALSE NEIGHBOUR: 'it returns false'. Refute it at one input. -/
def protoCanonicalWrong : ChangeSpec := { name := "protoCanonical", fn := fun _ => fun
  | [d] => { results := [.lit (.bool false)], args := [d] }
  | _ => none }
def ProtoCanonicalWrongFalsely : Prop := protoCanonicalRow.holds Tryd.pinned (OpenSpec.ofChange protoCanonicalWrong)

/- THE SECOND FORM. 'bulk': how many values and letters a reading holds, each counted each time it is reached (what is shared counts as often as it is met; a slice's spare places count too). A statement '..UptoSaid' is the law's where the arguments, and the package variables that the reading takes, are together of bulk at most 1048576: NARROWER than '..Said'. Prove '..Said' where nothing that the law and all that it calls make is longer than what came in: it says more and counts as full. Else prove '..UptoSaid'. A law counts once. -/
mutual
def uptoBulk {H : Type} : DataW H → Nat
  | .lit (.string bytes) => bytes.length + 1
  | .lit _ => 1
  | .nil => 1
  | .ptr d => uptoBulk d + 1
  | .slice elems spare => uptoBulkAll elems + uptoBulkAll spare + 1
  | .agg parts => uptoBulkAll parts + 1
  | .iface _ d => uptoBulk d + 1
  | .map entries => uptoBulkEntries entries + 1
  | .held _ => 1
def uptoBulkAll {H : Type} : List (DataW H) → Nat
  | [] => 0
  | d :: r => uptoBulk d + uptoBulkAll r
def uptoBulkEntries {H : Type} : List (Lit × DataW H) → Nat
  | [] => 0
  | x :: r => uptoBulkEntry x + uptoBulkEntries r
def uptoBulkEntry {H : Type} : Lit × DataW H → Nat
  | (.string bytes, d) => bytes.length + uptoBulk d + 1
  | (_, d) => uptoBulk d + 1
 end
def uptoSmall : (H : Type) → List (DataW H) → Bool := fun _ ds => decide (uptoBulkAll ds ≤ 1048576)
def OpenSpec.upto (s : _root_.Go.ChangeSpec) : _root_.Go.OpenSpec := { _root_.Go.OpenSpec.ofChange s with cond := some uptoSmall }

/-- 'quiltlaw50.ProtoBatches', WHERE WHAT IT READS IS OF BULK AT MOST 1048576: true; the input reads as it did. -/
def protoBatchesUptoRow : OpenClaim := { program := "ytoclmkbjgmgekaadoor", sum := "583a4e23d4f953e32a317292c1ad771436770e3542b94e2c17b20bd74ea7dae3", func := "quilt/quiltlaw50.ProtoBatches", spec := "protoBatches", inPlace := ["internal/abi.NoEscape"], recurses := true, named := ["internal/strconv.uint64pow10", "math/bits.deBruijn32tab", "math/bits.deBruijn64tab"], apart := false, laid := [("math/bits.deBruijn32tab", laid_math_bits_deBruijn32tab), ("math/bits.deBruijn64tab", laid_math_bits_deBruijn64tab), ("internal/strconv.uint64pow10", laid_internal_strconv_uint64pow10)], narrowed := true }
def ProtoBatchesUptoSaid : Prop := protoBatchesUptoRow.holds Tryd.pinned (OpenSpec.upto protoBatchesSpec)

/-- 'quiltlaw50.ProtoDifferent', WHERE WHAT IT READS IS OF BULK AT MOST 1048576: true; the input reads as it did. -/
def protoDifferentUptoRow : OpenClaim := { program := "ytoclmkbjgmgekaadoor", sum := "583a4e23d4f953e32a317292c1ad771436770e3542b94e2c17b20bd74ea7dae3", func := "quilt/quiltlaw50.ProtoDifferent", spec := "protoDifferent", inPlace := ["internal/abi.NoEscape"], recurses := true, named := ["internal/strconv.uint64pow10", "math/bits.deBruijn32tab", "math/bits.deBruijn64tab"], apart := false, laid := [("math/bits.deBruijn32tab", laid_math_bits_deBruijn32tab), ("math/bits.deBruijn64tab", laid_math_bits_deBruijn64tab), ("internal/strconv.uint64pow10", laid_internal_strconv_uint64pow10)], narrowed := true }
def ProtoDifferentUptoSaid : Prop := protoDifferentUptoRow.holds Tryd.pinned (OpenSpec.upto protoDifferentSpec)

/-- 'quiltlaw50.ProtoParts', WHERE WHAT IT READS IS OF BULK AT MOST 1048576: true; the input reads as it did. -/
def protoPartsUptoRow : OpenClaim := { program := "ytoclmkbjgmgekaadoor", sum := "583a4e23d4f953e32a317292c1ad771436770e3542b94e2c17b20bd74ea7dae3", func := "quilt/quiltlaw50.ProtoParts", spec := "protoParts", inPlace := ["internal/abi.NoEscape"], recurses := true, named := ["internal/strconv.uint64pow10", "math/bits.deBruijn32tab", "math/bits.deBruijn64tab"], apart := false, laid := [("math/bits.deBruijn32tab", laid_math_bits_deBruijn32tab), ("math/bits.deBruijn64tab", laid_math_bits_deBruijn64tab), ("internal/strconv.uint64pow10", laid_internal_strconv_uint64pow10)], narrowed := true }
def ProtoPartsUptoSaid : Prop := protoPartsUptoRow.holds Tryd.pinned (OpenSpec.upto protoPartsSpec)

/-- 'quiltlaw50.ProtoEncode', WHERE WHAT IT READS IS OF BULK AT MOST 1048576: true; the input reads as it did. -/
def protoEncodeUptoRow : OpenClaim := { program := "ytoclmkbjgmgekaadoor", sum := "583a4e23d4f953e32a317292c1ad771436770e3542b94e2c17b20bd74ea7dae3", func := "quilt/quiltlaw50.ProtoEncode", spec := "protoEncode", inPlace := ["internal/abi.NoEscape"], recurses := true, named := ["internal/strconv.uint64pow10", "math/bits.deBruijn32tab", "math/bits.deBruijn64tab"], apart := false, laid := [("math/bits.deBruijn32tab", laid_math_bits_deBruijn32tab), ("math/bits.deBruijn64tab", laid_math_bits_deBruijn64tab), ("internal/strconv.uint64pow10", laid_internal_strconv_uint64pow10)], narrowed := true }
def ProtoEncodeUptoSaid : Prop := protoEncodeUptoRow.holds Tryd.pinned (OpenSpec.upto protoEncodeSpec)

/-- 'quiltlaw50.ProtoFields', WHERE WHAT IT READS IS OF BULK AT MOST 1048576: true; the input reads as it did. -/
def protoFieldsUptoRow : OpenClaim := { program := "ytoclmkbjgmgekaadoor", sum := "583a4e23d4f953e32a317292c1ad771436770e3542b94e2c17b20bd74ea7dae3", func := "quilt/quiltlaw50.ProtoFields", spec := "protoFields", inPlace := ["internal/abi.NoEscape"], recurses := true, named := ["internal/strconv.uint64pow10", "math/bits.deBruijn32tab", "math/bits.deBruijn64tab"], apart := false, laid := [("math/bits.deBruijn32tab", laid_math_bits_deBruijn32tab), ("math/bits.deBruijn64tab", laid_math_bits_deBruijn64tab), ("internal/strconv.uint64pow10", laid_internal_strconv_uint64pow10)], narrowed := true }
def ProtoFieldsUptoSaid : Prop := protoFieldsUptoRow.holds Tryd.pinned (OpenSpec.upto protoFieldsSpec)

/-- 'quiltlaw50.ProtoRoundTrip', WHERE WHAT IT READS IS OF BULK AT MOST 1048576: true; the input reads as it did. -/
def protoRoundTripUptoRow : OpenClaim := { program := "ytoclmkbjgmgekaadoor", sum := "583a4e23d4f953e32a317292c1ad771436770e3542b94e2c17b20bd74ea7dae3", func := "quilt/quiltlaw50.ProtoRoundTrip", spec := "protoRoundTrip", inPlace := ["internal/abi.NoEscape"], unfollowed := true, recurses := true, named := ["internal/strconv.uint64pow10", "math/bits.deBruijn32tab", "math/bits.deBruijn64tab", "strconv.ErrSyntax", "strconv.ErrRange"], apart := false, laid := [("math/bits.deBruijn32tab", laid_math_bits_deBruijn32tab), ("math/bits.deBruijn64tab", laid_math_bits_deBruijn64tab), ("internal/strconv.uint64pow10", laid_internal_strconv_uint64pow10), ("strconv.ErrRange", laid_strconv_ErrRange), ("strconv.ErrSyntax", laid_strconv_ErrSyntax)], narrowed := true }
def ProtoRoundTripUptoSaid : Prop := protoRoundTripUptoRow.holds Tryd.pinned (OpenSpec.upto protoRoundTripSpec)

/-- 'quiltlaw50.ProtoCanonical', WHERE WHAT IT READS IS OF BULK AT MOST 1048576: true; the input reads as it did. -/
def protoCanonicalUptoRow : OpenClaim := { program := "ytoclmkbjgmgekaadoor", sum := "583a4e23d4f953e32a317292c1ad771436770e3542b94e2c17b20bd74ea7dae3", func := "quilt/quiltlaw50.ProtoCanonical", spec := "protoCanonical", inPlace := ["internal/abi.NoEscape"], unfollowed := true, recurses := true, named := ["internal/strconv.uint64pow10", "math/bits.deBruijn32tab", "math/bits.deBruijn64tab", "strconv.ErrSyntax", "strconv.ErrRange"], apart := false, laid := [("math/bits.deBruijn32tab", laid_math_bits_deBruijn32tab), ("math/bits.deBruijn64tab", laid_math_bits_deBruijn64tab), ("internal/strconv.uint64pow10", laid_internal_strconv_uint64pow10), ("strconv.ErrRange", laid_strconv_ErrRange), ("strconv.ErrSyntax", laid_strconv_ErrSyntax)], narrowed := true }
def ProtoCanonicalUptoSaid : Prop := protoCanonicalUptoRow.holds Tryd.pinned (OpenSpec.upto protoCanonicalSpec)

end Rows
end Go.Proofs.YtoclmkbjgmgekaaDoor
