/-
  DERIVED. GIVEN WITH THE SEED: THE CARDS: each row of YtpbkhdeehlikfaaDoorRows.lean that lists a variable, with what it lists TIED to the program's text (the seventh form; the later family's looks); each row that meets fmt, with fmt's text TOLD by the authors' own Lean function (tested against real Go, not proved from fmt's source: count such statements apart). THE CARD IS WHAT COUNTS. Prove the row's statement (the work); the ties are given (YtpbkhdeehlikfaaDoorTie.lean); close each card by the builder's one call (the guide's Derived/Test/ToyasCard.lean, 'card_holds'). Laid BY PROGRAM, IN A SANDBOX (cutbox-door.mjs). By AI agents, Wed Nov 11 2026. No macro, syntax, notation, axiom, sorry.
-/
import Derived.Test.YtpbkhdeehlikfaaDoorRows
import GoSem.ClaimSeven
namespace Go.Proofs.YtpbkhdeehlikfaaDoor
namespace Rows

/-- THE TIED CARD OF 'quiltlaw01.CsexpRead'. -/
def csexpReadCard : Claim7 := { stood := { row := csexpReadRow, standIns := [], harness := (true, "3d830137430c2973fb6d1f969b0e6ce4965e5263e53ec918cc27a439e7208461"), looks := true }, kinds := [], alts := [], laidByText := true, laidKinds := [.data, .data, .data, .sentinel, .sentinel], laidTests := true, laidLooks := .later }
def CsexpReadCardSaid : Prop := Claim7.holds Tryd.pinned (.plain (OpenSpec.ofChange csexpReadSpec)) csexpReadCard

/-- THE TIED CARD OF 'quiltlaw01.CsexpNumbers'. -/
def csexpNumbersCard : Claim7 := { stood := { row := csexpNumbersRow, standIns := [], harness := (true, "3d830137430c2973fb6d1f969b0e6ce4965e5263e53ec918cc27a439e7208461"), looks := true }, kinds := [], alts := [], laidByText := true, laidKinds := [.data, .data, .data, .sentinel, .sentinel], laidTests := true, laidLooks := .later }
def CsexpNumbersCardSaid : Prop := Claim7.holds Tryd.pinned (.plain (OpenSpec.ofChange csexpNumbersSpec)) csexpNumbersCard

/-- THE TIED CARD OF 'quiltlaw01.CsexpInts'. -/
def csexpIntsCard : Claim7 := { stood := { row := csexpIntsRow, standIns := [], harness := (true, "3d830137430c2973fb6d1f969b0e6ce4965e5263e53ec918cc27a439e7208461"), looks := true }, kinds := [], alts := [], laidByText := true, laidKinds := [.data, .data, .data, .sentinel, .sentinel], laidTests := true, laidLooks := .later }
def CsexpIntsCardSaid : Prop := Claim7.holds Tryd.pinned (.plain (OpenSpec.ofChange csexpIntsSpec)) csexpIntsCard

/-- THE TIED CARD OF 'quiltlaw01.CsexpCheck'. -/
def csexpCheckCard : Claim7 := { stood := { row := csexpCheckRow, standIns := [], harness := (true, "3d830137430c2973fb6d1f969b0e6ce4965e5263e53ec918cc27a439e7208461"), looks := true }, kinds := [], alts := [], laidByText := true, laidKinds := [.data, .data, .data, .sentinel, .sentinel], laidTests := true, laidLooks := .later }
def CsexpCheckCardSaid : Prop := Claim7.holds Tryd.pinned (.plain (OpenSpec.ofChange csexpCheckSpec)) csexpCheckCard

/-- THE TIED CARD OF 'quiltlaw01.CsexpRoundTrip'. -/
def csexpRoundTripCard : Claim7 := { stood := { row := csexpRoundTripRow, standIns := [], harness := (true, "3d830137430c2973fb6d1f969b0e6ce4965e5263e53ec918cc27a439e7208461"), looks := true }, kinds := [], alts := [], laidByText := true, laidKinds := [.data, .data, .data, .sentinel, .sentinel], laidTests := true, laidLooks := .later }
def CsexpRoundTripCardSaid : Prop := Claim7.holds Tryd.pinned (.plain (OpenSpec.ofChange csexpRoundTripSpec)) csexpRoundTripCard

/-- THE TIED CARD OF 'quiltlaw01.CsexpCanonical'. -/
def csexpCanonicalCard : Claim7 := { stood := { row := csexpCanonicalRow, standIns := [], harness := (true, "3d830137430c2973fb6d1f969b0e6ce4965e5263e53ec918cc27a439e7208461"), looks := true }, kinds := [], alts := [], laidByText := true, laidKinds := [.data, .data, .data, .sentinel, .sentinel], laidTests := true, laidLooks := .later }
def CsexpCanonicalCardSaid : Prop := Claim7.holds Tryd.pinned (.plain (OpenSpec.ofChange csexpCanonicalSpec)) csexpCanonicalCard

/-- THE TIED CARD OF 'quiltlaw01.CsexpShort'. -/
def csexpShortCard : Claim7 := { stood := { row := csexpShortRow, standIns := [], harness := (true, "3d830137430c2973fb6d1f969b0e6ce4965e5263e53ec918cc27a439e7208461"), looks := true }, kinds := [], alts := [], laidByText := true, laidKinds := [.data, .data, .data, .sentinel, .sentinel], laidTests := true, laidLooks := .later }
def CsexpShortCardSaid : Prop := Claim7.holds Tryd.pinned (.plain (OpenSpec.ofChange csexpShortSpec)) csexpShortCard

/-- THE TIED CARD OF 'quiltlaw01.CsexpStream'. -/
def csexpStreamCard : Claim7 := { stood := { row := csexpStreamRow, standIns := [], harness := (true, "3d830137430c2973fb6d1f969b0e6ce4965e5263e53ec918cc27a439e7208461"), looks := true }, kinds := [], alts := [], laidByText := true, laidKinds := [.data, .data, .data, .sentinel, .sentinel], laidTests := true, laidLooks := .later }
def CsexpStreamCardSaid : Prop := Claim7.holds Tryd.pinned (.plain (OpenSpec.ofChange csexpStreamSpec)) csexpStreamCard

/-- THE SECOND FORM's CARD OF 'quiltlaw01.CsexpRead'. -/
def csexpReadUptoCard : Claim7 := { stood := { row := csexpReadUptoRow, standIns := [], harness := (true, "3d830137430c2973fb6d1f969b0e6ce4965e5263e53ec918cc27a439e7208461"), looks := true }, kinds := [], alts := [], laidByText := true, laidKinds := [.data, .data, .data, .sentinel, .sentinel], laidTests := true, laidLooks := .later }
def CsexpReadUptoCardSaid : Prop := Claim7.holds Tryd.pinned (.plain (OpenSpec.upto csexpReadSpec)) csexpReadUptoCard

/-- THE SECOND FORM's CARD OF 'quiltlaw01.CsexpNumbers'. -/
def csexpNumbersUptoCard : Claim7 := { stood := { row := csexpNumbersUptoRow, standIns := [], harness := (true, "3d830137430c2973fb6d1f969b0e6ce4965e5263e53ec918cc27a439e7208461"), looks := true }, kinds := [], alts := [], laidByText := true, laidKinds := [.data, .data, .data, .sentinel, .sentinel], laidTests := true, laidLooks := .later }
def CsexpNumbersUptoCardSaid : Prop := Claim7.holds Tryd.pinned (.plain (OpenSpec.upto csexpNumbersSpec)) csexpNumbersUptoCard

/-- THE SECOND FORM's CARD OF 'quiltlaw01.CsexpInts'. -/
def csexpIntsUptoCard : Claim7 := { stood := { row := csexpIntsUptoRow, standIns := [], harness := (true, "3d830137430c2973fb6d1f969b0e6ce4965e5263e53ec918cc27a439e7208461"), looks := true }, kinds := [], alts := [], laidByText := true, laidKinds := [.data, .data, .data, .sentinel, .sentinel], laidTests := true, laidLooks := .later }
def CsexpIntsUptoCardSaid : Prop := Claim7.holds Tryd.pinned (.plain (OpenSpec.upto csexpIntsSpec)) csexpIntsUptoCard

/-- THE SECOND FORM's CARD OF 'quiltlaw01.CsexpCheck'. -/
def csexpCheckUptoCard : Claim7 := { stood := { row := csexpCheckUptoRow, standIns := [], harness := (true, "3d830137430c2973fb6d1f969b0e6ce4965e5263e53ec918cc27a439e7208461"), looks := true }, kinds := [], alts := [], laidByText := true, laidKinds := [.data, .data, .data, .sentinel, .sentinel], laidTests := true, laidLooks := .later }
def CsexpCheckUptoCardSaid : Prop := Claim7.holds Tryd.pinned (.plain (OpenSpec.upto csexpCheckSpec)) csexpCheckUptoCard

/-- THE SECOND FORM's CARD OF 'quiltlaw01.CsexpRoundTrip'. -/
def csexpRoundTripUptoCard : Claim7 := { stood := { row := csexpRoundTripUptoRow, standIns := [], harness := (true, "3d830137430c2973fb6d1f969b0e6ce4965e5263e53ec918cc27a439e7208461"), looks := true }, kinds := [], alts := [], laidByText := true, laidKinds := [.data, .data, .data, .sentinel, .sentinel], laidTests := true, laidLooks := .later }
def CsexpRoundTripUptoCardSaid : Prop := Claim7.holds Tryd.pinned (.plain (OpenSpec.upto csexpRoundTripSpec)) csexpRoundTripUptoCard

/-- THE SECOND FORM's CARD OF 'quiltlaw01.CsexpCanonical'. -/
def csexpCanonicalUptoCard : Claim7 := { stood := { row := csexpCanonicalUptoRow, standIns := [], harness := (true, "3d830137430c2973fb6d1f969b0e6ce4965e5263e53ec918cc27a439e7208461"), looks := true }, kinds := [], alts := [], laidByText := true, laidKinds := [.data, .data, .data, .sentinel, .sentinel], laidTests := true, laidLooks := .later }
def CsexpCanonicalUptoCardSaid : Prop := Claim7.holds Tryd.pinned (.plain (OpenSpec.upto csexpCanonicalSpec)) csexpCanonicalUptoCard

/-- THE SECOND FORM's CARD OF 'quiltlaw01.CsexpShort'. -/
def csexpShortUptoCard : Claim7 := { stood := { row := csexpShortUptoRow, standIns := [], harness := (true, "3d830137430c2973fb6d1f969b0e6ce4965e5263e53ec918cc27a439e7208461"), looks := true }, kinds := [], alts := [], laidByText := true, laidKinds := [.data, .data, .data, .sentinel, .sentinel], laidTests := true, laidLooks := .later }
def CsexpShortUptoCardSaid : Prop := Claim7.holds Tryd.pinned (.plain (OpenSpec.upto csexpShortSpec)) csexpShortUptoCard

/-- THE SECOND FORM's CARD OF 'quiltlaw01.CsexpStream'. -/
def csexpStreamUptoCard : Claim7 := { stood := { row := csexpStreamUptoRow, standIns := [], harness := (true, "3d830137430c2973fb6d1f969b0e6ce4965e5263e53ec918cc27a439e7208461"), looks := true }, kinds := [], alts := [], laidByText := true, laidKinds := [.data, .data, .data, .sentinel, .sentinel], laidTests := true, laidLooks := .later }
def CsexpStreamUptoCardSaid : Prop := Claim7.holds Tryd.pinned (.plain (OpenSpec.upto csexpStreamSpec)) csexpStreamUptoCard
end Rows
end Go.Proofs.YtpbkhdeehlikfaaDoor
