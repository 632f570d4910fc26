/-
  DERIVED. GIVEN WITH THE SEED: THE CARDS: each row of YtekfjbjdlenhoaaGreatDoorRows.lean that lists a variable, with what it lists TIED to the program's text (the seventh form; the later family's looks); each row that meets fmt, with fmt's text TOLD by the authors' own Lean function (tested against real Go, not proved from fmt's source: count such statements apart). THE CARD IS WHAT COUNTS. Prove the row's statement (the work); the ties are given (YtekfjbjdlenhoaaGreatDoorTie.lean); close each card by the builder's one call (the guide's Derived/Test/ToyasCard.lean, 'card_holds'). Laid BY PROGRAM, IN A SANDBOX (cutbox-door.mjs). By AI agents, Wed Nov 11 2026. No macro, syntax, notation, axiom, sorry.
-/
import Derived.Test.YtekfjbjdlenhoaaGreatDoorRows
import GoSem.ClaimSeven
namespace Go.Proofs.YtekfjbjdlenhoaaGreatDoor
namespace Rows

/-- THE TIED CARD OF 'ancepslaw12.OrthographyFits'. -/
def orthographyFitsCard : Claim7 := { stood := { row := orthographyFitsRow, standIns := [], harness := (true, "4aed90c5013534e89fb9d3eff786117bddfa68c0e1471dd83cd3825f6810a25d"), looks := false }, kinds := [], alts := [], laidByText := true, laidKinds := [.data, .pinned], laidTests := true, laidLooks := .later }
def OrthographyFitsCardSaid : Prop := Claim7.holds Tryz.pinned (.plain (OpenSpec.ofChange orthographyFitsSpec)) orthographyFitsCard

/-- THE TIED CARD OF 'ancepslaw12.OrthographyFind'. -/
def orthographyFindCard : Claim7 := { stood := { row := orthographyFindRow, standIns := [], harness := (true, "4aed90c5013534e89fb9d3eff786117bddfa68c0e1471dd83cd3825f6810a25d"), looks := false }, kinds := [], alts := [], laidByText := true, laidKinds := [.data, .pinned], laidTests := true, laidLooks := .later }
def OrthographyFindCardSaid : Prop := Claim7.holds Tryz.pinned (.plain (OpenSpec.ofChange orthographyFindSpec)) orthographyFindCard

/-- THE TIED CARD OF 'ancepslaw12.OrthographyWhere'. -/
def orthographyWhereCard : Claim7 := { stood := { row := orthographyWhereRow, standIns := [], harness := (true, "4aed90c5013534e89fb9d3eff786117bddfa68c0e1471dd83cd3825f6810a25d"), looks := false }, kinds := [], alts := [], laidByText := true, laidKinds := [.data, .pinned], laidTests := true, laidLooks := .later }
def OrthographyWhereCardSaid : Prop := Claim7.holds Tryz.pinned (.plain (OpenSpec.ofChange orthographyWhereSpec)) orthographyWhereCard

/-- THE TIED CARD OF 'ancepslaw12.OrthographyValid'. -/
def orthographyValidCard : Claim7 := { stood := { row := orthographyValidRow, standIns := [], harness := (true, "4aed90c5013534e89fb9d3eff786117bddfa68c0e1471dd83cd3825f6810a25d"), looks := false }, kinds := [], alts := [], laidByText := true, laidKinds := [.data, .pinned], laidTests := true, laidLooks := .later }
def OrthographyValidCardSaid : Prop := Claim7.holds Tryz.pinned (.plain (OpenSpec.ofChange orthographyValidSpec)) orthographyValidCard

/-- THE TIED CARD OF 'ancepslaw12.OrthographyFixed'. -/
def orthographyFixedCard : Claim7 := { stood := { row := orthographyFixedRow, standIns := [], harness := (true, "4aed90c5013534e89fb9d3eff786117bddfa68c0e1471dd83cd3825f6810a25d"), looks := false }, kinds := [], alts := [], laidByText := true, laidKinds := [.data, .pinned], laidTests := true, laidLooks := .later }
def OrthographyFixedCardSaid : Prop := Claim7.holds Tryz.pinned (.plain (OpenSpec.ofChange orthographyFixedSpec)) orthographyFixedCard

/-- THE TIED CARD OF 'ancepslaw12.OrthographyMore'. -/
def orthographyMoreCard : Claim7 := { stood := { row := orthographyMoreRow, standIns := [], harness := (true, "4aed90c5013534e89fb9d3eff786117bddfa68c0e1471dd83cd3825f6810a25d"), looks := false }, kinds := [], alts := [], laidByText := true, laidKinds := [.data, .pinned], laidTests := true, laidLooks := .later }
def OrthographyMoreCardSaid : Prop := Claim7.holds Tryz.pinned (.plain (OpenSpec.ofChange orthographyMoreSpec)) orthographyMoreCard

/-- THE TIED CARD OF 'ancepslaw12.OrthographyFormat'. -/
def orthographyFormatCard : Claim7 := { stood := { row := orthographyFormatRow, standIns := [], harness := (true, "4aed90c5013534e89fb9d3eff786117bddfa68c0e1471dd83cd3825f6810a25d"), looks := false }, kinds := [], alts := [], laidByText := true, laidKinds := [.data, .data, .data, .data, .pinned], laidTests := true, laidLooks := .later }
def OrthographyFormatCardSaid : Prop := Claim7.holds Tryz.pinned (.plain (OpenSpec.ofChange orthographyFormatSpec)) orthographyFormatCard

/-- THE SECOND FORM's CARD OF 'ancepslaw12.OrthographyFits'. -/
def orthographyFitsUptoCard : Claim7 := { stood := { row := orthographyFitsUptoRow, standIns := [], harness := (true, "4aed90c5013534e89fb9d3eff786117bddfa68c0e1471dd83cd3825f6810a25d"), looks := false }, kinds := [], alts := [], laidByText := true, laidKinds := [.data, .pinned], laidTests := true, laidLooks := .later }
def OrthographyFitsUptoCardSaid : Prop := Claim7.holds Tryz.pinned (.plain (OpenSpec.upto orthographyFitsSpec)) orthographyFitsUptoCard

/-- THE SECOND FORM's CARD OF 'ancepslaw12.OrthographyFind'. -/
def orthographyFindUptoCard : Claim7 := { stood := { row := orthographyFindUptoRow, standIns := [], harness := (true, "4aed90c5013534e89fb9d3eff786117bddfa68c0e1471dd83cd3825f6810a25d"), looks := false }, kinds := [], alts := [], laidByText := true, laidKinds := [.data, .pinned], laidTests := true, laidLooks := .later }
def OrthographyFindUptoCardSaid : Prop := Claim7.holds Tryz.pinned (.plain (OpenSpec.upto orthographyFindSpec)) orthographyFindUptoCard

/-- THE SECOND FORM's CARD OF 'ancepslaw12.OrthographyWhere'. -/
def orthographyWhereUptoCard : Claim7 := { stood := { row := orthographyWhereUptoRow, standIns := [], harness := (true, "4aed90c5013534e89fb9d3eff786117bddfa68c0e1471dd83cd3825f6810a25d"), looks := false }, kinds := [], alts := [], laidByText := true, laidKinds := [.data, .pinned], laidTests := true, laidLooks := .later }
def OrthographyWhereUptoCardSaid : Prop := Claim7.holds Tryz.pinned (.plain (OpenSpec.upto orthographyWhereSpec)) orthographyWhereUptoCard

/-- THE SECOND FORM's CARD OF 'ancepslaw12.OrthographyValid'. -/
def orthographyValidUptoCard : Claim7 := { stood := { row := orthographyValidUptoRow, standIns := [], harness := (true, "4aed90c5013534e89fb9d3eff786117bddfa68c0e1471dd83cd3825f6810a25d"), looks := false }, kinds := [], alts := [], laidByText := true, laidKinds := [.data, .pinned], laidTests := true, laidLooks := .later }
def OrthographyValidUptoCardSaid : Prop := Claim7.holds Tryz.pinned (.plain (OpenSpec.upto orthographyValidSpec)) orthographyValidUptoCard

/-- THE SECOND FORM's CARD OF 'ancepslaw12.OrthographyFixed'. -/
def orthographyFixedUptoCard : Claim7 := { stood := { row := orthographyFixedUptoRow, standIns := [], harness := (true, "4aed90c5013534e89fb9d3eff786117bddfa68c0e1471dd83cd3825f6810a25d"), looks := false }, kinds := [], alts := [], laidByText := true, laidKinds := [.data, .pinned], laidTests := true, laidLooks := .later }
def OrthographyFixedUptoCardSaid : Prop := Claim7.holds Tryz.pinned (.plain (OpenSpec.upto orthographyFixedSpec)) orthographyFixedUptoCard

/-- THE SECOND FORM's CARD OF 'ancepslaw12.OrthographyMore'. -/
def orthographyMoreUptoCard : Claim7 := { stood := { row := orthographyMoreUptoRow, standIns := [], harness := (true, "4aed90c5013534e89fb9d3eff786117bddfa68c0e1471dd83cd3825f6810a25d"), looks := false }, kinds := [], alts := [], laidByText := true, laidKinds := [.data, .pinned], laidTests := true, laidLooks := .later }
def OrthographyMoreUptoCardSaid : Prop := Claim7.holds Tryz.pinned (.plain (OpenSpec.upto orthographyMoreSpec)) orthographyMoreUptoCard

/-- THE SECOND FORM's CARD OF 'ancepslaw12.OrthographyFormat'. -/
def orthographyFormatUptoCard : Claim7 := { stood := { row := orthographyFormatUptoRow, standIns := [], harness := (true, "4aed90c5013534e89fb9d3eff786117bddfa68c0e1471dd83cd3825f6810a25d"), looks := false }, kinds := [], alts := [], laidByText := true, laidKinds := [.data, .data, .data, .data, .pinned], laidTests := true, laidLooks := .later }
def OrthographyFormatUptoCardSaid : Prop := Claim7.holds Tryz.pinned (.plain (OpenSpec.upto orthographyFormatSpec)) orthographyFormatUptoCard
end Rows
end Go.Proofs.YtekfjbjdlenhoaaGreatDoor
