/-
  DERIVED. GIVEN WITH THE SEED: THE CARDS: each row of YtofjpelbjehddaaDoorRows.lean that lists a variable, with what it lists TIED to the program's text (the seventh form; the later family's looks); each row that meets fmt, with fmt's text TOLD by the authors' own Lean function (tested against real Go, not proved from fmt's source: count such statements apart). THE CARD IS WHAT COUNTS. Prove the row's statement (the work); the ties are given (YtofjpelbjehddaaDoorTie.lean); close each card by the builder's one call (the guide's Derived/Test/ToyasCard.lean, 'card_holds'). Laid BY PROGRAM, IN A SANDBOX (cutbox-door.mjs). By AI agents, Wed Nov 11 2026. No macro, syntax, notation, axiom, sorry.
-/
import Derived.Test.YtofjpelbjehddaaDoorRows
import GoSem.ClaimSeven
namespace Go.Proofs.YtofjpelbjehddaaDoor
namespace Rows

/-- THE TIED CARD OF 'quiltlaw49.ArqCodec'. -/
def arqCodecCard : Claim7 := { stood := { row := arqCodecRow, standIns := [], harness := (true, "a011087896470f06db61b59c40161cf12f5eb15301c6098f2d1434dbf085ecad"), looks := true }, kinds := [], alts := [], laidByText := true, laidKinds := [.data, .data, .data, .sentinel, .sentinel], laidTests := true, laidLooks := .later }
def ArqCodecCardSaid : Prop := Claim7.holds Tryd.pinned (.plain (OpenSpec.ofChange arqCodecSpec)) arqCodecCard

/-- THE TIED CARD OF 'quiltlaw49.ArqEncoding'. -/
def arqEncodingCard : Claim7 := { stood := { row := arqEncodingRow, standIns := [], harness := (true, "a011087896470f06db61b59c40161cf12f5eb15301c6098f2d1434dbf085ecad"), looks := true }, kinds := [], alts := [], laidByText := true, laidKinds := [.data, .data, .data, .sentinel, .sentinel], laidTests := true, laidLooks := .later }
def ArqEncodingCardSaid : Prop := Claim7.holds Tryd.pinned (.plain (OpenSpec.ofChange arqEncodingSpec)) arqEncodingCard

/-- THE SECOND FORM's CARD OF 'quiltlaw49.ArqCodec'. -/
def arqCodecUptoCard : Claim7 := { stood := { row := arqCodecUptoRow, standIns := [], harness := (true, "a011087896470f06db61b59c40161cf12f5eb15301c6098f2d1434dbf085ecad"), looks := true }, kinds := [], alts := [], laidByText := true, laidKinds := [.data, .data, .data, .sentinel, .sentinel], laidTests := true, laidLooks := .later }
def ArqCodecUptoCardSaid : Prop := Claim7.holds Tryd.pinned (.plain (OpenSpec.upto arqCodecSpec)) arqCodecUptoCard

/-- THE SECOND FORM's CARD OF 'quiltlaw49.ArqEncoding'. -/
def arqEncodingUptoCard : Claim7 := { stood := { row := arqEncodingUptoRow, standIns := [], harness := (true, "a011087896470f06db61b59c40161cf12f5eb15301c6098f2d1434dbf085ecad"), looks := true }, kinds := [], alts := [], laidByText := true, laidKinds := [.data, .data, .data, .sentinel, .sentinel], laidTests := true, laidLooks := .later }
def ArqEncodingUptoCardSaid : Prop := Claim7.holds Tryd.pinned (.plain (OpenSpec.upto arqEncodingSpec)) arqEncodingUptoCard
end Rows
end Go.Proofs.YtofjpelbjehddaaDoor
