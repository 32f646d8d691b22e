/-
  DERIVED. GIVEN WITH THE SEED: THE CARDS: each row of YtbglndogddddoaaGreatDoorRows.lean that lists a variable, with what it lists TIED to the program's text (the seventh form; the later family's looks); each row that meets fmt, with fmt's text TOLD by the authors' own Lean function (tested against real Go, not proved from fmt's source: count such statements apart). THE CARD IS WHAT COUNTS. Prove the row's statement (the work); the ties are given (YtbglndogddddoaaGreatDoorTie.lean); close each card by the builder's one call (the guide's Derived/Test/ToyasCard.lean, 'card_holds'). Laid BY PROGRAM, IN A SANDBOX (cutbox-door.mjs). By AI agents, Wed Nov 11 2026. No macro, syntax, notation, axiom, sorry.
-/
import Derived.Test.YtbglndogddddoaaGreatDoorRows
import GoSem.ClaimSeven
namespace Go.Proofs.YtbglndogddddoaaGreatDoor
namespace Rows

/-- THE TIED CARD OF 'quiltlaw16.PatchEncode'. -/
def patchEncodeCard : Claim7 := { stood := { row := patchEncodeRow, standIns := [], harness := (true, "3e6b0bfc68525cab4ca07384c03ab80df4b37089eb63ca3063ebf157899b4f4e"), looks := true }, kinds := [], alts := [], laidByText := true, laidKinds := [.data, .data, .data], laidTests := true, laidLooks := .later }
def PatchEncodeCardSaid : Prop := Claim7.holds Tryz.pinned (.plain (OpenSpec.ofChange patchEncodeSpec)) patchEncodeCard

/-- THE TIED CARD OF 'quiltlaw16.PatchOrder'. -/
def patchOrderCard : Claim7 := { stood := { row := patchOrderRow, standIns := [], harness := (true, "3e6b0bfc68525cab4ca07384c03ab80df4b37089eb63ca3063ebf157899b4f4e"), looks := true }, kinds := [], alts := [], laidByText := true, laidKinds := [.data, .data, .data], laidTests := true, laidLooks := .later }
def PatchOrderCardSaid : Prop := Claim7.holds Tryz.pinned (.plain (OpenSpec.ofChange patchOrderSpec)) patchOrderCard

/-- THE TIED CARD OF 'quiltlaw16.PatchCheck'. -/
def patchCheckCard : Claim7 := { stood := { row := patchCheckRow, standIns := [], harness := (true, "3e6b0bfc68525cab4ca07384c03ab80df4b37089eb63ca3063ebf157899b4f4e"), looks := true }, kinds := [], alts := [], laidByText := true, laidKinds := [.data, .data, .data], laidTests := true, laidLooks := .later }
def PatchCheckCardSaid : Prop := Claim7.holds Tryz.pinned (.plain (OpenSpec.ofChange patchCheckSpec)) patchCheckCard

/-- THE TIED CARD OF 'quiltlaw16.PatchNumbers'. -/
def patchNumbersCard : Claim7 := { stood := { row := patchNumbersRow, standIns := [], harness := (true, "3e6b0bfc68525cab4ca07384c03ab80df4b37089eb63ca3063ebf157899b4f4e"), looks := true }, kinds := [], alts := [], laidByText := true, laidKinds := [.data, .data, .data], laidTests := true, laidLooks := .later }
def PatchNumbersCardSaid : Prop := Claim7.holds Tryz.pinned (.plain (OpenSpec.ofChange patchNumbersSpec)) patchNumbersCard

/-- THE TIED CARD OF 'quiltlaw16.PatchMentions'. -/
def patchMentionsCard : Claim7 := { stood := { row := patchMentionsRow, standIns := [], harness := (true, "3e6b0bfc68525cab4ca07384c03ab80df4b37089eb63ca3063ebf157899b4f4e"), looks := true }, kinds := [], alts := [], laidByText := true, laidKinds := [.data, .data, .data], laidTests := true, laidLooks := .later }
def PatchMentionsCardSaid : Prop := Claim7.holds Tryz.pinned (.plain (OpenSpec.ofChange patchMentionsSpec)) patchMentionsCard

/-- THE TIED CARD OF 'quiltlaw16.PatchDecode'. -/
def patchDecodeCard : Claim7 := { stood := { row := patchDecodeRow, standIns := [], harness := (true, "3e6b0bfc68525cab4ca07384c03ab80df4b37089eb63ca3063ebf157899b4f4e"), looks := true }, kinds := [], alts := [], laidByText := true, laidKinds := [.data, .data, .data, .sentinel, .sentinel], laidTests := true, laidLooks := .later }
def PatchDecodeCardSaid : Prop := Claim7.holds Tryz.pinned (.plain (OpenSpec.ofChange patchDecodeSpec)) patchDecodeCard

/-- THE TIED CARD OF 'quiltlaw16.PatchRoundTrip'. -/
def patchRoundTripCard : Claim7 := { stood := { row := patchRoundTripRow, standIns := [], harness := (true, "3e6b0bfc68525cab4ca07384c03ab80df4b37089eb63ca3063ebf157899b4f4e"), looks := true }, kinds := [], alts := [], laidByText := true, laidKinds := [.data, .data, .data, .sentinel, .sentinel], laidTests := true, laidLooks := .later }
def PatchRoundTripCardSaid : Prop := Claim7.holds Tryz.pinned (.plain (OpenSpec.ofChange patchRoundTripSpec)) patchRoundTripCard

/-- THE TIED CARD OF 'quiltlaw16.PatchCanonical'. -/
def patchCanonicalCard : Claim7 := { stood := { row := patchCanonicalRow, standIns := [], harness := (true, "3e6b0bfc68525cab4ca07384c03ab80df4b37089eb63ca3063ebf157899b4f4e"), looks := true }, kinds := [], alts := [], laidByText := true, laidKinds := [.data, .data, .data, .sentinel, .sentinel], laidTests := true, laidLooks := .later }
def PatchCanonicalCardSaid : Prop := Claim7.holds Tryz.pinned (.plain (OpenSpec.ofChange patchCanonicalSpec)) patchCanonicalCard

/-- THE SECOND FORM's CARD OF 'quiltlaw16.PatchEncode'. -/
def patchEncodeUptoCard : Claim7 := { stood := { row := patchEncodeUptoRow, standIns := [], harness := (true, "3e6b0bfc68525cab4ca07384c03ab80df4b37089eb63ca3063ebf157899b4f4e"), looks := true }, kinds := [], alts := [], laidByText := true, laidKinds := [.data, .data, .data], laidTests := true, laidLooks := .later }
def PatchEncodeUptoCardSaid : Prop := Claim7.holds Tryz.pinned (.plain (OpenSpec.upto patchEncodeSpec)) patchEncodeUptoCard

/-- THE SECOND FORM's CARD OF 'quiltlaw16.PatchOrder'. -/
def patchOrderUptoCard : Claim7 := { stood := { row := patchOrderUptoRow, standIns := [], harness := (true, "3e6b0bfc68525cab4ca07384c03ab80df4b37089eb63ca3063ebf157899b4f4e"), looks := true }, kinds := [], alts := [], laidByText := true, laidKinds := [.data, .data, .data], laidTests := true, laidLooks := .later }
def PatchOrderUptoCardSaid : Prop := Claim7.holds Tryz.pinned (.plain (OpenSpec.upto patchOrderSpec)) patchOrderUptoCard

/-- THE SECOND FORM's CARD OF 'quiltlaw16.PatchCheck'. -/
def patchCheckUptoCard : Claim7 := { stood := { row := patchCheckUptoRow, standIns := [], harness := (true, "3e6b0bfc68525cab4ca07384c03ab80df4b37089eb63ca3063ebf157899b4f4e"), looks := true }, kinds := [], alts := [], laidByText := true, laidKinds := [.data, .data, .data], laidTests := true, laidLooks := .later }
def PatchCheckUptoCardSaid : Prop := Claim7.holds Tryz.pinned (.plain (OpenSpec.upto patchCheckSpec)) patchCheckUptoCard

/-- THE SECOND FORM's CARD OF 'quiltlaw16.PatchNumbers'. -/
def patchNumbersUptoCard : Claim7 := { stood := { row := patchNumbersUptoRow, standIns := [], harness := (true, "3e6b0bfc68525cab4ca07384c03ab80df4b37089eb63ca3063ebf157899b4f4e"), looks := true }, kinds := [], alts := [], laidByText := true, laidKinds := [.data, .data, .data], laidTests := true, laidLooks := .later }
def PatchNumbersUptoCardSaid : Prop := Claim7.holds Tryz.pinned (.plain (OpenSpec.upto patchNumbersSpec)) patchNumbersUptoCard

/-- THE SECOND FORM's CARD OF 'quiltlaw16.PatchMentions'. -/
def patchMentionsUptoCard : Claim7 := { stood := { row := patchMentionsUptoRow, standIns := [], harness := (true, "3e6b0bfc68525cab4ca07384c03ab80df4b37089eb63ca3063ebf157899b4f4e"), looks := true }, kinds := [], alts := [], laidByText := true, laidKinds := [.data, .data, .data], laidTests := true, laidLooks := .later }
def PatchMentionsUptoCardSaid : Prop := Claim7.holds Tryz.pinned (.plain (OpenSpec.upto patchMentionsSpec)) patchMentionsUptoCard

/-- THE SECOND FORM's CARD OF 'quiltlaw16.PatchDecode'. -/
def patchDecodeUptoCard : Claim7 := { stood := { row := patchDecodeUptoRow, standIns := [], harness := (true, "3e6b0bfc68525cab4ca07384c03ab80df4b37089eb63ca3063ebf157899b4f4e"), looks := true }, kinds := [], alts := [], laidByText := true, laidKinds := [.data, .data, .data, .sentinel, .sentinel], laidTests := true, laidLooks := .later }
def PatchDecodeUptoCardSaid : Prop := Claim7.holds Tryz.pinned (.plain (OpenSpec.upto patchDecodeSpec)) patchDecodeUptoCard

/-- THE SECOND FORM's CARD OF 'quiltlaw16.PatchRoundTrip'. -/
def patchRoundTripUptoCard : Claim7 := { stood := { row := patchRoundTripUptoRow, standIns := [], harness := (true, "3e6b0bfc68525cab4ca07384c03ab80df4b37089eb63ca3063ebf157899b4f4e"), looks := true }, kinds := [], alts := [], laidByText := true, laidKinds := [.data, .data, .data, .sentinel, .sentinel], laidTests := true, laidLooks := .later }
def PatchRoundTripUptoCardSaid : Prop := Claim7.holds Tryz.pinned (.plain (OpenSpec.upto patchRoundTripSpec)) patchRoundTripUptoCard

/-- THE SECOND FORM's CARD OF 'quiltlaw16.PatchCanonical'. -/
def patchCanonicalUptoCard : Claim7 := { stood := { row := patchCanonicalUptoRow, standIns := [], harness := (true, "3e6b0bfc68525cab4ca07384c03ab80df4b37089eb63ca3063ebf157899b4f4e"), looks := true }, kinds := [], alts := [], laidByText := true, laidKinds := [.data, .data, .data, .sentinel, .sentinel], laidTests := true, laidLooks := .later }
def PatchCanonicalUptoCardSaid : Prop := Claim7.holds Tryz.pinned (.plain (OpenSpec.upto patchCanonicalSpec)) patchCanonicalUptoCard
end Rows
end Go.Proofs.YtbglndogddddoaaGreatDoor
