/-
  DERIVED. GIVEN WITH THE SEED: THE CARDS: each row of YtiaijoomngefnaaGreatDoorRows.lean that lists a variable, with what it lists TIED to the program's text (the seventh form; the later family's looks); each row that meets fmt, with fmt's text TOLD by the authors' own Lean function (tested against real Go, not proved from fmt's source: count such statements apart). THE CARD IS WHAT COUNTS. Prove the row's statement (the work); the ties are given (YtiaijoomngefnaaGreatDoorTie.lean); close each card by the builder's one call (the guide's Derived/Test/ToyasCard.lean, 'card_holds'). Laid BY PROGRAM, IN A SANDBOX (cutbox-door.mjs). By AI agents, Wed Nov 11 2026. No macro, syntax, notation, axiom, sorry.
-/
import Derived.Test.YtiaijoomngefnaaGreatDoorRows
import GoSem.ClaimSeven
namespace Go.Proofs.YtiaijoomngefnaaGreatDoor
namespace Rows

/-- THE TIED CARD OF 'ancepslaw03.FractionText'. -/
def fractionTextCard : Claim7 := { stood := { row := fractionTextRow, standIns := [], harness := (true, "7fb1ae490adc9f9cf868b7a32ac4f4af9bac7b2e57b9c3d4c7426939c639b99c"), looks := true }, kinds := [], alts := [], laidByText := true, laidKinds := [.data, .data, .data, .data, .sentinel, .sentinel, .pinned], laidTests := true, laidLooks := .later }
def FractionTextCardSaid : Prop := Claim7.holds Tryz.pinned (.plain (OpenSpec.ofChange fractionTextSpec)) fractionTextCard

/-- THE TIED CARD OF 'ancepslaw03.FractionParse'. -/
def fractionParseCard : Claim7 := { stood := { row := fractionParseRow, standIns := [], harness := (true, "7fb1ae490adc9f9cf868b7a32ac4f4af9bac7b2e57b9c3d4c7426939c639b99c"), looks := true }, kinds := [], alts := [], laidByText := true, laidKinds := [.data, .data, .data, .data, .sentinel, .sentinel, .pinned], laidTests := true, laidLooks := .later }
def FractionParseCardSaid : Prop := Claim7.holds Tryz.pinned (.plain (OpenSpec.ofChange fractionParseSpec)) fractionParseCard

/-- THE TIED CARD OF 'ancepslaw03.FractionDecimal'. -/
def fractionDecimalCard : Claim7 := { stood := { row := fractionDecimalRow, standIns := [], harness := (true, "7fb1ae490adc9f9cf868b7a32ac4f4af9bac7b2e57b9c3d4c7426939c639b99c"), looks := true }, kinds := [], alts := [], laidByText := true, laidKinds := [.data, .data, .data, .data, .sentinel, .sentinel, .pinned], laidTests := true, laidLooks := .later }
def FractionDecimalCardSaid : Prop := Claim7.holds Tryz.pinned (.plain (OpenSpec.ofChange fractionDecimalSpec)) fractionDecimalCard

/-- THE TIED CARD OF 'ancepslaw03.FractionOf'. -/
def fractionOfCard : Claim7 := { stood := { row := fractionOfRow, standIns := [], harness := (true, "7fb1ae490adc9f9cf868b7a32ac4f4af9bac7b2e57b9c3d4c7426939c639b99c"), looks := true }, kinds := [], alts := [], laidByText := true, laidKinds := [.data, .data, .data, .data, .sentinel, .sentinel, .pinned], laidTests := true, laidLooks := .later }
def FractionOfCardSaid : Prop := Claim7.holds Tryz.pinned (.plain (OpenSpec.ofChange fractionOfSpec)) fractionOfCard

/-- THE TIED CARD OF 'ancepslaw03.FractionCmp'. -/
def fractionCmpCard : Claim7 := { stood := { row := fractionCmpRow, standIns := [], harness := (true, "7fb1ae490adc9f9cf868b7a32ac4f4af9bac7b2e57b9c3d4c7426939c639b99c"), looks := true }, kinds := [], alts := [], laidByText := true, laidKinds := [.data, .data, .data, .data, .sentinel, .sentinel, .pinned], laidTests := true, laidLooks := .later }
def FractionCmpCardSaid : Prop := Claim7.holds Tryz.pinned (.plain (OpenSpec.ofChange fractionCmpSpec)) fractionCmpCard

/-- THE TIED CARD OF 'ancepslaw03.FractionRounded'. -/
def fractionRoundedCard : Claim7 := { stood := { row := fractionRoundedRow, standIns := [], harness := (true, "7fb1ae490adc9f9cf868b7a32ac4f4af9bac7b2e57b9c3d4c7426939c639b99c"), looks := true }, kinds := [], alts := [], laidByText := true, laidKinds := [.data, .data, .data, .data, .sentinel, .sentinel, .pinned], laidTests := true, laidLooks := .later }
def FractionRoundedCardSaid : Prop := Claim7.holds Tryz.pinned (.plain (OpenSpec.ofChange fractionRoundedSpec)) fractionRoundedCard

/-- THE TIED CARD OF 'ancepslaw03.FractionSum'. -/
def fractionSumCard : Claim7 := { stood := { row := fractionSumRow, standIns := [], harness := (true, "7fb1ae490adc9f9cf868b7a32ac4f4af9bac7b2e57b9c3d4c7426939c639b99c"), looks := true }, kinds := [], alts := [], laidByText := true, laidKinds := [.data, .data, .data, .data, .sentinel, .sentinel, .pinned], laidTests := true, laidLooks := .later }
def FractionSumCardSaid : Prop := Claim7.holds Tryz.pinned (.plain (OpenSpec.ofChange fractionSumSpec)) fractionSumCard

/-- THE TIED CARD OF 'ancepslaw03.FractionResults'. -/
def fractionResultsCard : Claim7 := { stood := { row := fractionResultsRow, standIns := [], harness := (true, "7fb1ae490adc9f9cf868b7a32ac4f4af9bac7b2e57b9c3d4c7426939c639b99c"), looks := true }, kinds := [], alts := [], laidByText := true, laidKinds := [.data, .data, .data, .data, .sentinel, .sentinel, .pinned], laidTests := true, laidLooks := .later }
def FractionResultsCardSaid : Prop := Claim7.holds Tryz.pinned (.plain (OpenSpec.ofChange fractionResultsSpec)) fractionResultsCard

/-- THE TIED CARD OF 'ancepslaw03.FractionField'. -/
def fractionFieldCard : Claim7 := { stood := { row := fractionFieldRow, standIns := [], harness := (true, "7fb1ae490adc9f9cf868b7a32ac4f4af9bac7b2e57b9c3d4c7426939c639b99c"), looks := true }, kinds := [], alts := [], laidByText := true, laidKinds := [.data, .data, .data, .data, .sentinel, .sentinel, .pinned], laidTests := true, laidLooks := .later }
def FractionFieldCardSaid : Prop := Claim7.holds Tryz.pinned (.plain (OpenSpec.ofChange fractionFieldSpec)) fractionFieldCard

/-- THE SECOND FORM's CARD OF 'ancepslaw03.FractionText'. -/
def fractionTextUptoCard : Claim7 := { stood := { row := fractionTextUptoRow, standIns := [], harness := (true, "7fb1ae490adc9f9cf868b7a32ac4f4af9bac7b2e57b9c3d4c7426939c639b99c"), looks := true }, kinds := [], alts := [], laidByText := true, laidKinds := [.data, .data, .data, .data, .sentinel, .sentinel, .pinned], laidTests := true, laidLooks := .later }
def FractionTextUptoCardSaid : Prop := Claim7.holds Tryz.pinned (.plain (OpenSpec.upto fractionTextSpec)) fractionTextUptoCard

/-- THE SECOND FORM's CARD OF 'ancepslaw03.FractionParse'. -/
def fractionParseUptoCard : Claim7 := { stood := { row := fractionParseUptoRow, standIns := [], harness := (true, "7fb1ae490adc9f9cf868b7a32ac4f4af9bac7b2e57b9c3d4c7426939c639b99c"), looks := true }, kinds := [], alts := [], laidByText := true, laidKinds := [.data, .data, .data, .data, .sentinel, .sentinel, .pinned], laidTests := true, laidLooks := .later }
def FractionParseUptoCardSaid : Prop := Claim7.holds Tryz.pinned (.plain (OpenSpec.upto fractionParseSpec)) fractionParseUptoCard

/-- THE SECOND FORM's CARD OF 'ancepslaw03.FractionDecimal'. -/
def fractionDecimalUptoCard : Claim7 := { stood := { row := fractionDecimalUptoRow, standIns := [], harness := (true, "7fb1ae490adc9f9cf868b7a32ac4f4af9bac7b2e57b9c3d4c7426939c639b99c"), looks := true }, kinds := [], alts := [], laidByText := true, laidKinds := [.data, .data, .data, .data, .sentinel, .sentinel, .pinned], laidTests := true, laidLooks := .later }
def FractionDecimalUptoCardSaid : Prop := Claim7.holds Tryz.pinned (.plain (OpenSpec.upto fractionDecimalSpec)) fractionDecimalUptoCard

/-- THE SECOND FORM's CARD OF 'ancepslaw03.FractionOf'. -/
def fractionOfUptoCard : Claim7 := { stood := { row := fractionOfUptoRow, standIns := [], harness := (true, "7fb1ae490adc9f9cf868b7a32ac4f4af9bac7b2e57b9c3d4c7426939c639b99c"), looks := true }, kinds := [], alts := [], laidByText := true, laidKinds := [.data, .data, .data, .data, .sentinel, .sentinel, .pinned], laidTests := true, laidLooks := .later }
def FractionOfUptoCardSaid : Prop := Claim7.holds Tryz.pinned (.plain (OpenSpec.upto fractionOfSpec)) fractionOfUptoCard

/-- THE SECOND FORM's CARD OF 'ancepslaw03.FractionCmp'. -/
def fractionCmpUptoCard : Claim7 := { stood := { row := fractionCmpUptoRow, standIns := [], harness := (true, "7fb1ae490adc9f9cf868b7a32ac4f4af9bac7b2e57b9c3d4c7426939c639b99c"), looks := true }, kinds := [], alts := [], laidByText := true, laidKinds := [.data, .data, .data, .data, .sentinel, .sentinel, .pinned], laidTests := true, laidLooks := .later }
def FractionCmpUptoCardSaid : Prop := Claim7.holds Tryz.pinned (.plain (OpenSpec.upto fractionCmpSpec)) fractionCmpUptoCard

/-- THE SECOND FORM's CARD OF 'ancepslaw03.FractionRounded'. -/
def fractionRoundedUptoCard : Claim7 := { stood := { row := fractionRoundedUptoRow, standIns := [], harness := (true, "7fb1ae490adc9f9cf868b7a32ac4f4af9bac7b2e57b9c3d4c7426939c639b99c"), looks := true }, kinds := [], alts := [], laidByText := true, laidKinds := [.data, .data, .data, .data, .sentinel, .sentinel, .pinned], laidTests := true, laidLooks := .later }
def FractionRoundedUptoCardSaid : Prop := Claim7.holds Tryz.pinned (.plain (OpenSpec.upto fractionRoundedSpec)) fractionRoundedUptoCard

/-- THE SECOND FORM's CARD OF 'ancepslaw03.FractionSum'. -/
def fractionSumUptoCard : Claim7 := { stood := { row := fractionSumUptoRow, standIns := [], harness := (true, "7fb1ae490adc9f9cf868b7a32ac4f4af9bac7b2e57b9c3d4c7426939c639b99c"), looks := true }, kinds := [], alts := [], laidByText := true, laidKinds := [.data, .data, .data, .data, .sentinel, .sentinel, .pinned], laidTests := true, laidLooks := .later }
def FractionSumUptoCardSaid : Prop := Claim7.holds Tryz.pinned (.plain (OpenSpec.upto fractionSumSpec)) fractionSumUptoCard

/-- THE SECOND FORM's CARD OF 'ancepslaw03.FractionResults'. -/
def fractionResultsUptoCard : Claim7 := { stood := { row := fractionResultsUptoRow, standIns := [], harness := (true, "7fb1ae490adc9f9cf868b7a32ac4f4af9bac7b2e57b9c3d4c7426939c639b99c"), looks := true }, kinds := [], alts := [], laidByText := true, laidKinds := [.data, .data, .data, .data, .sentinel, .sentinel, .pinned], laidTests := true, laidLooks := .later }
def FractionResultsUptoCardSaid : Prop := Claim7.holds Tryz.pinned (.plain (OpenSpec.upto fractionResultsSpec)) fractionResultsUptoCard

/-- THE SECOND FORM's CARD OF 'ancepslaw03.FractionField'. -/
def fractionFieldUptoCard : Claim7 := { stood := { row := fractionFieldUptoRow, standIns := [], harness := (true, "7fb1ae490adc9f9cf868b7a32ac4f4af9bac7b2e57b9c3d4c7426939c639b99c"), looks := true }, kinds := [], alts := [], laidByText := true, laidKinds := [.data, .data, .data, .data, .sentinel, .sentinel, .pinned], laidTests := true, laidLooks := .later }
def FractionFieldUptoCardSaid : Prop := Claim7.holds Tryz.pinned (.plain (OpenSpec.upto fractionFieldSpec)) fractionFieldUptoCard
end Rows
end Go.Proofs.YtiaijoomngefnaaGreatDoor
