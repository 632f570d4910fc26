/-
  DERIVED. GIVEN WITH THE SEED: THE CARDS: each row of YtlogclmmeikbpaaDoorRows.lean that lists a variable, with what it lists TIED to the program's text (the seventh form; the later family's looks); each row that meets fmt, with fmt's text TOLD by the authors' own Lean function (tested against real Go, not proved from fmt's source: count such statements apart). THE CARD IS WHAT COUNTS. Prove the row's statement (the work); the ties are given (YtlogclmmeikbpaaDoorTie.lean); close each card by the builder's one call (the guide's Derived/Test/ToyasCard.lean, 'card_holds'). Laid BY PROGRAM, IN A SANDBOX (cutbox-door.mjs). By AI agents, Wed Nov 11 2026. No macro, syntax, notation, axiom, sorry.
-/
import Derived.Test.YtlogclmmeikbpaaDoorRows
import GoSem.ClaimSeven
namespace Go.Proofs.YtlogclmmeikbpaaDoor
namespace Rows

/-- THE TIED CARD OF 'ancepslaw02.NaturalProducts'. -/
def naturalProductsCard : Claim7 := { stood := { row := naturalProductsRow, standIns := [], harness := (true, "446465471e9fec57001bbe33b6b7cb503918eca467c58b8c6db2e4a1743568b9"), looks := true }, kinds := [], alts := [], laidByText := true, laidKinds := [.data, .data, .data, .data, .sentinel, .sentinel, .pinned], laidTests := true, laidLooks := .later }
def NaturalProductsCardSaid : Prop := Claim7.holds Tryd.pinned (.plain (OpenSpec.ofChange naturalProductsSpec)) naturalProductsCard

/-- THE TIED CARD OF 'ancepslaw02.NaturalText'. -/
def naturalTextCard : Claim7 := { stood := { row := naturalTextRow, standIns := [], harness := (true, "446465471e9fec57001bbe33b6b7cb503918eca467c58b8c6db2e4a1743568b9"), looks := true }, kinds := [], alts := [], laidByText := true, laidKinds := [.data, .data, .data, .data, .sentinel, .sentinel, .pinned], laidTests := true, laidLooks := .later }
def NaturalTextCardSaid : Prop := Claim7.holds Tryd.pinned (.plain (OpenSpec.ofChange naturalTextSpec)) naturalTextCard

/-- THE TIED CARD OF 'ancepslaw02.NaturalParse'. -/
def naturalParseCard : Claim7 := { stood := { row := naturalParseRow, standIns := [], harness := (true, "446465471e9fec57001bbe33b6b7cb503918eca467c58b8c6db2e4a1743568b9"), looks := true }, kinds := [], alts := [], laidByText := true, laidKinds := [.data, .data, .data, .data, .sentinel, .sentinel, .pinned], laidTests := true, laidLooks := .later }
def NaturalParseCardSaid : Prop := Claim7.holds Tryd.pinned (.plain (OpenSpec.ofChange naturalParseSpec)) naturalParseCard

/-- THE TIED CARD OF 'ancepslaw02.NaturalValid'. -/
def naturalValidCard : Claim7 := { stood := { row := naturalValidRow, standIns := [], harness := (true, "446465471e9fec57001bbe33b6b7cb503918eca467c58b8c6db2e4a1743568b9"), looks := true }, kinds := [], alts := [], laidByText := true, laidKinds := [.data, .data, .data, .data, .sentinel, .sentinel, .pinned], laidTests := true, laidLooks := .later }
def NaturalValidCardSaid : Prop := Claim7.holds Tryd.pinned (.plain (OpenSpec.ofChange naturalValidSpec)) naturalValidCard

/-- THE TIED CARD OF 'ancepslaw02.NaturalGcd'. -/
def naturalGcdCard : Claim7 := { stood := { row := naturalGcdRow, standIns := [], harness := (true, "446465471e9fec57001bbe33b6b7cb503918eca467c58b8c6db2e4a1743568b9"), looks := true }, kinds := [], alts := [], laidByText := true, laidKinds := [.data, .data, .data, .data, .sentinel, .sentinel, .pinned], laidTests := true, laidLooks := .later }
def NaturalGcdCardSaid : Prop := Claim7.holds Tryd.pinned (.plain (OpenSpec.ofChange naturalGcdSpec)) naturalGcdCard

/-- THE TIED CARD OF 'ancepslaw02.NaturalBinomial'. -/
def naturalBinomialCard : Claim7 := { stood := { row := naturalBinomialRow, standIns := [], harness := (true, "446465471e9fec57001bbe33b6b7cb503918eca467c58b8c6db2e4a1743568b9"), looks := true }, kinds := [], alts := [], laidByText := true, laidKinds := [.data, .data, .data, .data, .sentinel, .sentinel, .pinned], laidTests := true, laidLooks := .later }
def NaturalBinomialCardSaid : Prop := Claim7.holds Tryd.pinned (.plain (OpenSpec.ofChange naturalBinomialSpec)) naturalBinomialCard

/-- THE TIED CARD OF 'ancepslaw02.NaturalDivides'. -/
def naturalDividesCard : Claim7 := { stood := { row := naturalDividesRow, standIns := [], harness := (true, "446465471e9fec57001bbe33b6b7cb503918eca467c58b8c6db2e4a1743568b9"), looks := true }, kinds := [], alts := [], laidByText := true, laidKinds := [.data, .data, .data, .data, .sentinel, .sentinel, .pinned], laidTests := true, laidLooks := .later }
def NaturalDividesCardSaid : Prop := Claim7.holds Tryd.pinned (.plain (OpenSpec.ofChange naturalDividesSpec)) naturalDividesCard

/-- THE TIED CARD OF 'ancepslaw02.NaturalSums'. -/
def naturalSumsCard : Claim7 := { stood := { row := naturalSumsRow, standIns := [], harness := (true, "446465471e9fec57001bbe33b6b7cb503918eca467c58b8c6db2e4a1743568b9"), looks := true }, kinds := [], alts := [], laidByText := true, laidKinds := [.data, .data, .data, .data, .sentinel, .sentinel, .pinned], laidTests := true, laidLooks := .later }
def NaturalSumsCardSaid : Prop := Claim7.holds Tryd.pinned (.plain (OpenSpec.ofChange naturalSumsSpec)) naturalSumsCard

/-- THE TIED CARD OF 'ancepslaw02.NaturalRing'. -/
def naturalRingCard : Claim7 := { stood := { row := naturalRingRow, standIns := [], harness := (true, "446465471e9fec57001bbe33b6b7cb503918eca467c58b8c6db2e4a1743568b9"), looks := true }, kinds := [], alts := [], laidByText := true, laidKinds := [.data, .data, .data, .data, .sentinel, .sentinel, .pinned], laidTests := true, laidLooks := .later }
def NaturalRingCardSaid : Prop := Claim7.holds Tryd.pinned (.plain (OpenSpec.ofChange naturalRingSpec)) naturalRingCard

/-- THE SECOND FORM's CARD OF 'ancepslaw02.NaturalProducts'. -/
def naturalProductsUptoCard : Claim7 := { stood := { row := naturalProductsUptoRow, standIns := [], harness := (true, "446465471e9fec57001bbe33b6b7cb503918eca467c58b8c6db2e4a1743568b9"), looks := true }, kinds := [], alts := [], laidByText := true, laidKinds := [.data, .data, .data, .data, .sentinel, .sentinel, .pinned], laidTests := true, laidLooks := .later }
def NaturalProductsUptoCardSaid : Prop := Claim7.holds Tryd.pinned (.plain (OpenSpec.upto naturalProductsSpec)) naturalProductsUptoCard

/-- THE SECOND FORM's CARD OF 'ancepslaw02.NaturalText'. -/
def naturalTextUptoCard : Claim7 := { stood := { row := naturalTextUptoRow, standIns := [], harness := (true, "446465471e9fec57001bbe33b6b7cb503918eca467c58b8c6db2e4a1743568b9"), looks := true }, kinds := [], alts := [], laidByText := true, laidKinds := [.data, .data, .data, .data, .sentinel, .sentinel, .pinned], laidTests := true, laidLooks := .later }
def NaturalTextUptoCardSaid : Prop := Claim7.holds Tryd.pinned (.plain (OpenSpec.upto naturalTextSpec)) naturalTextUptoCard

/-- THE SECOND FORM's CARD OF 'ancepslaw02.NaturalParse'. -/
def naturalParseUptoCard : Claim7 := { stood := { row := naturalParseUptoRow, standIns := [], harness := (true, "446465471e9fec57001bbe33b6b7cb503918eca467c58b8c6db2e4a1743568b9"), looks := true }, kinds := [], alts := [], laidByText := true, laidKinds := [.data, .data, .data, .data, .sentinel, .sentinel, .pinned], laidTests := true, laidLooks := .later }
def NaturalParseUptoCardSaid : Prop := Claim7.holds Tryd.pinned (.plain (OpenSpec.upto naturalParseSpec)) naturalParseUptoCard

/-- THE SECOND FORM's CARD OF 'ancepslaw02.NaturalValid'. -/
def naturalValidUptoCard : Claim7 := { stood := { row := naturalValidUptoRow, standIns := [], harness := (true, "446465471e9fec57001bbe33b6b7cb503918eca467c58b8c6db2e4a1743568b9"), looks := true }, kinds := [], alts := [], laidByText := true, laidKinds := [.data, .data, .data, .data, .sentinel, .sentinel, .pinned], laidTests := true, laidLooks := .later }
def NaturalValidUptoCardSaid : Prop := Claim7.holds Tryd.pinned (.plain (OpenSpec.upto naturalValidSpec)) naturalValidUptoCard

/-- THE SECOND FORM's CARD OF 'ancepslaw02.NaturalGcd'. -/
def naturalGcdUptoCard : Claim7 := { stood := { row := naturalGcdUptoRow, standIns := [], harness := (true, "446465471e9fec57001bbe33b6b7cb503918eca467c58b8c6db2e4a1743568b9"), looks := true }, kinds := [], alts := [], laidByText := true, laidKinds := [.data, .data, .data, .data, .sentinel, .sentinel, .pinned], laidTests := true, laidLooks := .later }
def NaturalGcdUptoCardSaid : Prop := Claim7.holds Tryd.pinned (.plain (OpenSpec.upto naturalGcdSpec)) naturalGcdUptoCard

/-- THE SECOND FORM's CARD OF 'ancepslaw02.NaturalBinomial'. -/
def naturalBinomialUptoCard : Claim7 := { stood := { row := naturalBinomialUptoRow, standIns := [], harness := (true, "446465471e9fec57001bbe33b6b7cb503918eca467c58b8c6db2e4a1743568b9"), looks := true }, kinds := [], alts := [], laidByText := true, laidKinds := [.data, .data, .data, .data, .sentinel, .sentinel, .pinned], laidTests := true, laidLooks := .later }
def NaturalBinomialUptoCardSaid : Prop := Claim7.holds Tryd.pinned (.plain (OpenSpec.upto naturalBinomialSpec)) naturalBinomialUptoCard

/-- THE SECOND FORM's CARD OF 'ancepslaw02.NaturalDivides'. -/
def naturalDividesUptoCard : Claim7 := { stood := { row := naturalDividesUptoRow, standIns := [], harness := (true, "446465471e9fec57001bbe33b6b7cb503918eca467c58b8c6db2e4a1743568b9"), looks := true }, kinds := [], alts := [], laidByText := true, laidKinds := [.data, .data, .data, .data, .sentinel, .sentinel, .pinned], laidTests := true, laidLooks := .later }
def NaturalDividesUptoCardSaid : Prop := Claim7.holds Tryd.pinned (.plain (OpenSpec.upto naturalDividesSpec)) naturalDividesUptoCard

/-- THE SECOND FORM's CARD OF 'ancepslaw02.NaturalSums'. -/
def naturalSumsUptoCard : Claim7 := { stood := { row := naturalSumsUptoRow, standIns := [], harness := (true, "446465471e9fec57001bbe33b6b7cb503918eca467c58b8c6db2e4a1743568b9"), looks := true }, kinds := [], alts := [], laidByText := true, laidKinds := [.data, .data, .data, .data, .sentinel, .sentinel, .pinned], laidTests := true, laidLooks := .later }
def NaturalSumsUptoCardSaid : Prop := Claim7.holds Tryd.pinned (.plain (OpenSpec.upto naturalSumsSpec)) naturalSumsUptoCard

/-- THE SECOND FORM's CARD OF 'ancepslaw02.NaturalRing'. -/
def naturalRingUptoCard : Claim7 := { stood := { row := naturalRingUptoRow, standIns := [], harness := (true, "446465471e9fec57001bbe33b6b7cb503918eca467c58b8c6db2e4a1743568b9"), looks := true }, kinds := [], alts := [], laidByText := true, laidKinds := [.data, .data, .data, .data, .sentinel, .sentinel, .pinned], laidTests := true, laidLooks := .later }
def NaturalRingUptoCardSaid : Prop := Claim7.holds Tryd.pinned (.plain (OpenSpec.upto naturalRingSpec)) naturalRingUptoCard
end Rows
end Go.Proofs.YtlogclmmeikbpaaDoor
