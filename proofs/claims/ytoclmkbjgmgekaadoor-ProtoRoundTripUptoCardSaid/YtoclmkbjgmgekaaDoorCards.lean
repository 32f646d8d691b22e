/-
  DERIVED. GIVEN WITH THE SEED: THE CARDS: each row of YtoclmkbjgmgekaaDoorRows.lean that lists a variable, with what it lists TIED to the program's text (the seventh form; the later family's looks); each row that meets fmt, with fmt's text TOLD by the authors' own Lean function (tested against real Go, not proved from fmt's source: count such statements apart). THE CARD IS WHAT COUNTS. Prove the row's statement (the work); the ties are given (YtoclmkbjgmgekaaDoorTie.lean); close each card by the builder's one call (the guide's Derived/Test/ToyasCard.lean, 'card_holds'). Laid BY PROGRAM, IN A SANDBOX (cutbox-door.mjs). By AI agents, Wed Nov 11 2026. No macro, syntax, notation, axiom, sorry.
-/
import Derived.Test.YtoclmkbjgmgekaaDoorRows
import GoSem.ClaimSeven
namespace Go.Proofs.YtoclmkbjgmgekaaDoor
namespace Rows

/-- THE TIED CARD OF 'quiltlaw50.ProtoBatches'. -/
def protoBatchesCard : Claim7 := { stood := { row := protoBatchesRow, standIns := [], harness := (true, "f6279e412ddacaa04012c16eb1eed916c68819fb8f43a1137fc6a3f033fef0be"), looks := true }, kinds := [], alts := [], laidByText := true, laidKinds := [.data, .data, .data], laidTests := true, laidLooks := .later }
def ProtoBatchesCardSaid : Prop := Claim7.holds Tryd.pinned (.plain (OpenSpec.ofChange protoBatchesSpec)) protoBatchesCard

/-- THE TIED CARD OF 'quiltlaw50.ProtoDifferent'. -/
def protoDifferentCard : Claim7 := { stood := { row := protoDifferentRow, standIns := [], harness := (true, "f6279e412ddacaa04012c16eb1eed916c68819fb8f43a1137fc6a3f033fef0be"), looks := true }, kinds := [], alts := [], laidByText := true, laidKinds := [.data, .data, .data], laidTests := true, laidLooks := .later }
def ProtoDifferentCardSaid : Prop := Claim7.holds Tryd.pinned (.plain (OpenSpec.ofChange protoDifferentSpec)) protoDifferentCard

/-- THE TIED CARD OF 'quiltlaw50.ProtoParts'. -/
def protoPartsCard : Claim7 := { stood := { row := protoPartsRow, standIns := [], harness := (true, "f6279e412ddacaa04012c16eb1eed916c68819fb8f43a1137fc6a3f033fef0be"), looks := true }, kinds := [], alts := [], laidByText := true, laidKinds := [.data, .data, .data], laidTests := true, laidLooks := .later }
def ProtoPartsCardSaid : Prop := Claim7.holds Tryd.pinned (.plain (OpenSpec.ofChange protoPartsSpec)) protoPartsCard

/-- THE TIED CARD OF 'quiltlaw50.ProtoEncode'. -/
def protoEncodeCard : Claim7 := { stood := { row := protoEncodeRow, standIns := [], harness := (true, "f6279e412ddacaa04012c16eb1eed916c68819fb8f43a1137fc6a3f033fef0be"), looks := true }, kinds := [], alts := [], laidByText := true, laidKinds := [.data, .data, .data], laidTests := true, laidLooks := .later }
def ProtoEncodeCardSaid : Prop := Claim7.holds Tryd.pinned (.plain (OpenSpec.ofChange protoEncodeSpec)) protoEncodeCard

/-- THE TIED CARD OF 'quiltlaw50.ProtoFields'. -/
def protoFieldsCard : Claim7 := { stood := { row := protoFieldsRow, standIns := [], harness := (true, "f6279e412ddacaa04012c16eb1eed916c68819fb8f43a1137fc6a3f033fef0be"), looks := true }, kinds := [], alts := [], laidByText := true, laidKinds := [.data, .data, .data], laidTests := true, laidLooks := .later }
def ProtoFieldsCardSaid : Prop := Claim7.holds Tryd.pinned (.plain (OpenSpec.ofChange protoFieldsSpec)) protoFieldsCard

/-- THE TIED CARD OF 'quiltlaw50.ProtoRoundTrip'. -/
def protoRoundTripCard : Claim7 := { stood := { row := protoRoundTripRow, standIns := [], harness := (true, "f6279e412ddacaa04012c16eb1eed916c68819fb8f43a1137fc6a3f033fef0be"), looks := true }, kinds := [], alts := [], laidByText := true, laidKinds := [.data, .data, .data, .sentinel, .sentinel], laidTests := true, laidLooks := .later }
def ProtoRoundTripCardSaid : Prop := Claim7.holds Tryd.pinned (.plain (OpenSpec.ofChange protoRoundTripSpec)) protoRoundTripCard

/-- THE TIED CARD OF 'quiltlaw50.ProtoCanonical'. -/
def protoCanonicalCard : Claim7 := { stood := { row := protoCanonicalRow, standIns := [], harness := (true, "f6279e412ddacaa04012c16eb1eed916c68819fb8f43a1137fc6a3f033fef0be"), looks := true }, kinds := [], alts := [], laidByText := true, laidKinds := [.data, .data, .data, .sentinel, .sentinel], laidTests := true, laidLooks := .later }
def ProtoCanonicalCardSaid : Prop := Claim7.holds Tryd.pinned (.plain (OpenSpec.ofChange protoCanonicalSpec)) protoCanonicalCard

/-- THE SECOND FORM's CARD OF 'quiltlaw50.ProtoBatches'. -/
def protoBatchesUptoCard : Claim7 := { stood := { row := protoBatchesUptoRow, standIns := [], harness := (true, "f6279e412ddacaa04012c16eb1eed916c68819fb8f43a1137fc6a3f033fef0be"), looks := true }, kinds := [], alts := [], laidByText := true, laidKinds := [.data, .data, .data], laidTests := true, laidLooks := .later }
def ProtoBatchesUptoCardSaid : Prop := Claim7.holds Tryd.pinned (.plain (OpenSpec.upto protoBatchesSpec)) protoBatchesUptoCard

/-- THE SECOND FORM's CARD OF 'quiltlaw50.ProtoDifferent'. -/
def protoDifferentUptoCard : Claim7 := { stood := { row := protoDifferentUptoRow, standIns := [], harness := (true, "f6279e412ddacaa04012c16eb1eed916c68819fb8f43a1137fc6a3f033fef0be"), looks := true }, kinds := [], alts := [], laidByText := true, laidKinds := [.data, .data, .data], laidTests := true, laidLooks := .later }
def ProtoDifferentUptoCardSaid : Prop := Claim7.holds Tryd.pinned (.plain (OpenSpec.upto protoDifferentSpec)) protoDifferentUptoCard

/-- THE SECOND FORM's CARD OF 'quiltlaw50.ProtoParts'. -/
def protoPartsUptoCard : Claim7 := { stood := { row := protoPartsUptoRow, standIns := [], harness := (true, "f6279e412ddacaa04012c16eb1eed916c68819fb8f43a1137fc6a3f033fef0be"), looks := true }, kinds := [], alts := [], laidByText := true, laidKinds := [.data, .data, .data], laidTests := true, laidLooks := .later }
def ProtoPartsUptoCardSaid : Prop := Claim7.holds Tryd.pinned (.plain (OpenSpec.upto protoPartsSpec)) protoPartsUptoCard

/-- THE SECOND FORM's CARD OF 'quiltlaw50.ProtoEncode'. -/
def protoEncodeUptoCard : Claim7 := { stood := { row := protoEncodeUptoRow, standIns := [], harness := (true, "f6279e412ddacaa04012c16eb1eed916c68819fb8f43a1137fc6a3f033fef0be"), looks := true }, kinds := [], alts := [], laidByText := true, laidKinds := [.data, .data, .data], laidTests := true, laidLooks := .later }
def ProtoEncodeUptoCardSaid : Prop := Claim7.holds Tryd.pinned (.plain (OpenSpec.upto protoEncodeSpec)) protoEncodeUptoCard

/-- THE SECOND FORM's CARD OF 'quiltlaw50.ProtoFields'. -/
def protoFieldsUptoCard : Claim7 := { stood := { row := protoFieldsUptoRow, standIns := [], harness := (true, "f6279e412ddacaa04012c16eb1eed916c68819fb8f43a1137fc6a3f033fef0be"), looks := true }, kinds := [], alts := [], laidByText := true, laidKinds := [.data, .data, .data], laidTests := true, laidLooks := .later }
def ProtoFieldsUptoCardSaid : Prop := Claim7.holds Tryd.pinned (.plain (OpenSpec.upto protoFieldsSpec)) protoFieldsUptoCard

/-- THE SECOND FORM's CARD OF 'quiltlaw50.ProtoRoundTrip'. -/
def protoRoundTripUptoCard : Claim7 := { stood := { row := protoRoundTripUptoRow, standIns := [], harness := (true, "f6279e412ddacaa04012c16eb1eed916c68819fb8f43a1137fc6a3f033fef0be"), looks := true }, kinds := [], alts := [], laidByText := true, laidKinds := [.data, .data, .data, .sentinel, .sentinel], laidTests := true, laidLooks := .later }
def ProtoRoundTripUptoCardSaid : Prop := Claim7.holds Tryd.pinned (.plain (OpenSpec.upto protoRoundTripSpec)) protoRoundTripUptoCard

/-- THE SECOND FORM's CARD OF 'quiltlaw50.ProtoCanonical'. -/
def protoCanonicalUptoCard : Claim7 := { stood := { row := protoCanonicalUptoRow, standIns := [], harness := (true, "f6279e412ddacaa04012c16eb1eed916c68819fb8f43a1137fc6a3f033fef0be"), looks := true }, kinds := [], alts := [], laidByText := true, laidKinds := [.data, .data, .data, .sentinel, .sentinel], laidTests := true, laidLooks := .later }
def ProtoCanonicalUptoCardSaid : Prop := Claim7.holds Tryd.pinned (.plain (OpenSpec.upto protoCanonicalSpec)) protoCanonicalUptoCard
end Rows
end Go.Proofs.YtoclmkbjgmgekaaDoor
