/-
  DERIVED. GIVEN WITH THE SEED: THE CARDS: each row of YtoclmkbjgmgekaaGreatDoorRows.lean that lists a variable, with what it lists TIED to the program's text (the seventh form; the later family's looks); each row that meets fmt, with fmt's text TOLD by the authors' own Lean function (tested against real Go, not proved from fmt's source: count such statements apart). THE CARD IS WHAT COUNTS. Prove the row's statement (the work); the ties are given (YtoclmkbjgmgekaaGreatDoorTie.lean); close each card by the builder's one call (the guide's Derived/Test/ToyasCard.lean, 'card_holds'). Laid BY PROGRAM, IN A SANDBOX (cutbox-door.mjs). By AI agents, Wed Nov 11 2026. No macro, syntax, notation, axiom, sorry.
-/
import Derived.Test.YtoclmkbjgmgekaaGreatDoorRows
import GoSem.ClaimSeven
namespace Go.Proofs.YtoclmkbjgmgekaaGreatDoor
namespace Rows

/-- THE TIED CARD OF 'quiltlaw50.ProtoDecode'. -/
def protoDecodeCard : Claim7 := { stood := { row := protoDecodeRow, standIns := [], harness := (true, "99fcbe6a9d988c081d371f939ba417f90550b9908738e583bcef1d6d980ecf9c"), looks := true }, kinds := [], alts := [], laidByText := true, laidKinds := [.data, .data, .data, .sentinel, .sentinel], laidTests := true, laidLooks := .later }
def ProtoDecodeCardSaid : Prop := Claim7.holds Tryz.pinned (.plain (OpenSpec.ofChange protoDecodeSpec)) protoDecodeCard

/-- THE SECOND FORM's CARD OF 'quiltlaw50.ProtoDecode'. -/
def protoDecodeUptoCard : Claim7 := { stood := { row := protoDecodeUptoRow, standIns := [], harness := (true, "99fcbe6a9d988c081d371f939ba417f90550b9908738e583bcef1d6d980ecf9c"), looks := true }, kinds := [], alts := [], laidByText := true, laidKinds := [.data, .data, .data, .sentinel, .sentinel], laidTests := true, laidLooks := .later }
def ProtoDecodeUptoCardSaid : Prop := Claim7.holds Tryz.pinned (.plain (OpenSpec.upto protoDecodeSpec)) protoDecodeUptoCard
end Rows
end Go.Proofs.YtoclmkbjgmgekaaGreatDoor
