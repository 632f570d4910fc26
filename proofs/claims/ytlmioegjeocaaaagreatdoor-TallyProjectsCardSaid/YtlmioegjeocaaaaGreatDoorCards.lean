/-
  DERIVED. GIVEN WITH THE SEED: THE CARDS: each row of YtlmioegjeocaaaaGreatDoorRows.lean that lists a variable, with what it lists TIED to the program's text (the seventh form; the later family's looks); each row that meets fmt, with fmt's text TOLD by the authors' own Lean function (tested against real Go, not proved from fmt's source: count such statements apart). THE CARD IS WHAT COUNTS. Prove the row's statement (the work); the ties are given (YtlmioegjeocaaaaGreatDoorTie.lean); close each card by the builder's one call (the guide's Derived/Test/ToyasCard.lean, 'card_holds'). Laid BY PROGRAM, IN A SANDBOX (cutbox-door.mjs). By AI agents, Wed Nov 11 2026. No macro, syntax, notation, axiom, sorry.
-/
import Derived.Test.YtlmioegjeocaaaaGreatDoorRows
import GoSem.ClaimSeven
namespace Go.Proofs.YtlmioegjeocaaaaGreatDoor
namespace Rows

/-- THE TIED CARD OF 'ancepslaw50.TallyProjects'. -/
def tallyProjectsCard : Claim7 := { stood := { row := tallyProjectsRow, standIns := [], harness := (true, "f02d0af5d0fcc2a20ccc262c320ed751bb87f9e4538c0eb8bcd50404b0556b72"), looks := true }, kinds := [], alts := [], laidByText := true, laidKinds := [.data, .data, .data, .data, .pinned], laidTests := true, laidLooks := .later }
def TallyProjectsCardSaid : Prop := Claim7.holds Tryz.pinned (.plain (OpenSpec.ofChange tallyProjectsSpec)) tallyProjectsCard

/-- THE TIED CARD OF 'ancepslaw50.TallyTotals'. -/
def tallyTotalsCard : Claim7 := { stood := { row := tallyTotalsRow, standIns := [], harness := (true, "f02d0af5d0fcc2a20ccc262c320ed751bb87f9e4538c0eb8bcd50404b0556b72"), looks := true }, kinds := [], alts := [], laidByText := true, laidKinds := [.data, .data, .data, .data, .pinned], laidTests := true, laidLooks := .later }
def TallyTotalsCardSaid : Prop := Claim7.holds Tryz.pinned (.plain (OpenSpec.ofChange tallyTotalsSpec)) tallyTotalsCard

/-- THE TIED CARD OF 'ancepslaw50.TallyCounts'. -/
def tallyCountsCard : Claim7 := { stood := { row := tallyCountsRow, standIns := [], harness := (true, "f02d0af5d0fcc2a20ccc262c320ed751bb87f9e4538c0eb8bcd50404b0556b72"), looks := true }, kinds := [], alts := [], laidByText := true, laidKinds := [.data, .data, .data, .data, .pinned], laidTests := true, laidLooks := .later }
def TallyCountsCardSaid : Prop := Claim7.holds Tryz.pinned (.plain (OpenSpec.ofChange tallyCountsSpec)) tallyCountsCard

/-- THE TIED CARD OF 'ancepslaw50.TallyOrder'. -/
def tallyOrderCard : Claim7 := { stood := { row := tallyOrderRow, standIns := [], harness := (true, "f02d0af5d0fcc2a20ccc262c320ed751bb87f9e4538c0eb8bcd50404b0556b72"), looks := true }, kinds := [], alts := [], laidByText := true, laidKinds := [.data, .data, .data, .data, .pinned], laidTests := true, laidLooks := .later }
def TallyOrderCardSaid : Prop := Claim7.holds Tryz.pinned (.plain (OpenSpec.ofChange tallyOrderSpec)) tallyOrderCard

/-- THE TIED CARD OF 'ancepslaw50.TallyAdds'. -/
def tallyAddsCard : Claim7 := { stood := { row := tallyAddsRow, standIns := [], harness := (true, "f02d0af5d0fcc2a20ccc262c320ed751bb87f9e4538c0eb8bcd50404b0556b72"), looks := true }, kinds := [], alts := [], laidByText := true, laidKinds := [.data, .data, .data, .data, .pinned], laidTests := true, laidLooks := .later }
def TallyAddsCardSaid : Prop := Claim7.holds Tryz.pinned (.plain (OpenSpec.ofChange tallyAddsSpec)) tallyAddsCard

/-- THE TIED CARD OF 'ancepslaw50.TallyMerges'. -/
def tallyMergesCard : Claim7 := { stood := { row := tallyMergesRow, standIns := [], harness := (true, "f02d0af5d0fcc2a20ccc262c320ed751bb87f9e4538c0eb8bcd50404b0556b72"), looks := true }, kinds := [], alts := [], laidByText := true, laidKinds := [.data, .data, .data, .data, .pinned], laidTests := true, laidLooks := .later }
def TallyMergesCardSaid : Prop := Claim7.holds Tryz.pinned (.plain (OpenSpec.ofChange tallyMergesSpec)) tallyMergesCard

/-- THE TIED CARD OF 'ancepslaw50.TallyParses'. -/
def tallyParsesCard : Claim7 := { stood := { row := tallyParsesRow, standIns := [], harness := (true, "f02d0af5d0fcc2a20ccc262c320ed751bb87f9e4538c0eb8bcd50404b0556b72"), looks := true }, kinds := [], alts := [], laidByText := true, laidKinds := [.data, .data, .data, .data, .sentinel, .sentinel, .pinned], laidTests := true, laidLooks := .later }
def TallyParsesCardSaid : Prop := Claim7.holds Tryz.pinned (.plain (OpenSpec.ofChange tallyParsesSpec)) tallyParsesCard

/-- THE TIED CARD OF 'ancepslaw50.TallyFormats'. -/
def tallyFormatsCard : Claim7 := { stood := { row := tallyFormatsRow, standIns := [], harness := (true, "f02d0af5d0fcc2a20ccc262c320ed751bb87f9e4538c0eb8bcd50404b0556b72"), looks := true }, kinds := [], alts := [], laidByText := true, laidKinds := [.data, .data, .data, .data, .sentinel, .sentinel, .pinned], laidTests := true, laidLooks := .later }
def TallyFormatsCardSaid : Prop := Claim7.holds Tryz.pinned (.plain (OpenSpec.ofChange tallyFormatsSpec)) tallyFormatsCard

/-- THE SECOND FORM's CARD OF 'ancepslaw50.TallyProjects'. -/
def tallyProjectsUptoCard : Claim7 := { stood := { row := tallyProjectsUptoRow, standIns := [], harness := (true, "f02d0af5d0fcc2a20ccc262c320ed751bb87f9e4538c0eb8bcd50404b0556b72"), looks := true }, kinds := [], alts := [], laidByText := true, laidKinds := [.data, .data, .data, .data, .pinned], laidTests := true, laidLooks := .later }
def TallyProjectsUptoCardSaid : Prop := Claim7.holds Tryz.pinned (.plain (OpenSpec.upto tallyProjectsSpec)) tallyProjectsUptoCard

/-- THE SECOND FORM's CARD OF 'ancepslaw50.TallyTotals'. -/
def tallyTotalsUptoCard : Claim7 := { stood := { row := tallyTotalsUptoRow, standIns := [], harness := (true, "f02d0af5d0fcc2a20ccc262c320ed751bb87f9e4538c0eb8bcd50404b0556b72"), looks := true }, kinds := [], alts := [], laidByText := true, laidKinds := [.data, .data, .data, .data, .pinned], laidTests := true, laidLooks := .later }
def TallyTotalsUptoCardSaid : Prop := Claim7.holds Tryz.pinned (.plain (OpenSpec.upto tallyTotalsSpec)) tallyTotalsUptoCard

/-- THE SECOND FORM's CARD OF 'ancepslaw50.TallyCounts'. -/
def tallyCountsUptoCard : Claim7 := { stood := { row := tallyCountsUptoRow, standIns := [], harness := (true, "f02d0af5d0fcc2a20ccc262c320ed751bb87f9e4538c0eb8bcd50404b0556b72"), looks := true }, kinds := [], alts := [], laidByText := true, laidKinds := [.data, .data, .data, .data, .pinned], laidTests := true, laidLooks := .later }
def TallyCountsUptoCardSaid : Prop := Claim7.holds Tryz.pinned (.plain (OpenSpec.upto tallyCountsSpec)) tallyCountsUptoCard

/-- THE SECOND FORM's CARD OF 'ancepslaw50.TallyOrder'. -/
def tallyOrderUptoCard : Claim7 := { stood := { row := tallyOrderUptoRow, standIns := [], harness := (true, "f02d0af5d0fcc2a20ccc262c320ed751bb87f9e4538c0eb8bcd50404b0556b72"), looks := true }, kinds := [], alts := [], laidByText := true, laidKinds := [.data, .data, .data, .data, .pinned], laidTests := true, laidLooks := .later }
def TallyOrderUptoCardSaid : Prop := Claim7.holds Tryz.pinned (.plain (OpenSpec.upto tallyOrderSpec)) tallyOrderUptoCard

/-- THE SECOND FORM's CARD OF 'ancepslaw50.TallyAdds'. -/
def tallyAddsUptoCard : Claim7 := { stood := { row := tallyAddsUptoRow, standIns := [], harness := (true, "f02d0af5d0fcc2a20ccc262c320ed751bb87f9e4538c0eb8bcd50404b0556b72"), looks := true }, kinds := [], alts := [], laidByText := true, laidKinds := [.data, .data, .data, .data, .pinned], laidTests := true, laidLooks := .later }
def TallyAddsUptoCardSaid : Prop := Claim7.holds Tryz.pinned (.plain (OpenSpec.upto tallyAddsSpec)) tallyAddsUptoCard

/-- THE SECOND FORM's CARD OF 'ancepslaw50.TallyMerges'. -/
def tallyMergesUptoCard : Claim7 := { stood := { row := tallyMergesUptoRow, standIns := [], harness := (true, "f02d0af5d0fcc2a20ccc262c320ed751bb87f9e4538c0eb8bcd50404b0556b72"), looks := true }, kinds := [], alts := [], laidByText := true, laidKinds := [.data, .data, .data, .data, .pinned], laidTests := true, laidLooks := .later }
def TallyMergesUptoCardSaid : Prop := Claim7.holds Tryz.pinned (.plain (OpenSpec.upto tallyMergesSpec)) tallyMergesUptoCard

/-- THE SECOND FORM's CARD OF 'ancepslaw50.TallyParses'. -/
def tallyParsesUptoCard : Claim7 := { stood := { row := tallyParsesUptoRow, standIns := [], harness := (true, "f02d0af5d0fcc2a20ccc262c320ed751bb87f9e4538c0eb8bcd50404b0556b72"), looks := true }, kinds := [], alts := [], laidByText := true, laidKinds := [.data, .data, .data, .data, .sentinel, .sentinel, .pinned], laidTests := true, laidLooks := .later }
def TallyParsesUptoCardSaid : Prop := Claim7.holds Tryz.pinned (.plain (OpenSpec.upto tallyParsesSpec)) tallyParsesUptoCard

/-- THE SECOND FORM's CARD OF 'ancepslaw50.TallyFormats'. -/
def tallyFormatsUptoCard : Claim7 := { stood := { row := tallyFormatsUptoRow, standIns := [], harness := (true, "f02d0af5d0fcc2a20ccc262c320ed751bb87f9e4538c0eb8bcd50404b0556b72"), looks := true }, kinds := [], alts := [], laidByText := true, laidKinds := [.data, .data, .data, .data, .sentinel, .sentinel, .pinned], laidTests := true, laidLooks := .later }
def TallyFormatsUptoCardSaid : Prop := Claim7.holds Tryz.pinned (.plain (OpenSpec.upto tallyFormatsSpec)) tallyFormatsUptoCard
end Rows
end Go.Proofs.YtlmioegjeocaaaaGreatDoor
