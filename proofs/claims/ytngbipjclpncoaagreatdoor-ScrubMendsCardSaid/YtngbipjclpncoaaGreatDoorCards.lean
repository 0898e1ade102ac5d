/-
  DERIVED. GIVEN WITH THE SEED: THE CARDS: each row of YtngbipjclpncoaaGreatDoorRows.lean that lists a variable, with what it lists TIED to the program's text (the seventh form; the later family's looks); each row that meets fmt, with fmt's text TOLD by the authors' own Lean function (tested against real Go, not proved from fmt's source: count such statements apart). THE CARD IS WHAT COUNTS. Prove the row's statement (the work); the ties are given (YtngbipjclpncoaaGreatDoorTie.lean); close each card by the builder's one call (the guide's Derived/Test/ToyasCard.lean, 'card_holds'). Laid BY PROGRAM, IN A SANDBOX (cutbox-door.mjs). By AI agents, Wed Nov 11 2026. No macro, syntax, notation, axiom, sorry.
-/
import Derived.Test.YtngbipjclpncoaaGreatDoorRows
import GoSem.ClaimSeven
namespace Go.Proofs.YtngbipjclpncoaaGreatDoor
namespace Rows

/-- THE TIED CARD OF 'sheetpilelaw17.ScrubWhole'. -/
def scrubWholeCard : Claim7 := { stood := { row := scrubWholeRow, standIns := [], harness := (true, "7846a88d40413f8de0dcdb2b33f1214c6726dece3851fbd56e4d8c2ff6a792e1"), looks := true }, kinds := [], alts := [], laidByText := true, laidKinds := [.data, .pinned], laidTests := true, laidLooks := .later }
def ScrubWholeCardSaid : Prop := Claim7.holds Tryz.pinned (.plain (OpenSpec.ofChange scrubWholeSpec)) scrubWholeCard

/-- THE TIED CARD OF 'sheetpilelaw17.ScrubCounts'. -/
def scrubCountsCard : Claim7 := { stood := { row := scrubCountsRow, standIns := [], harness := (true, "7846a88d40413f8de0dcdb2b33f1214c6726dece3851fbd56e4d8c2ff6a792e1"), looks := true }, kinds := [], alts := [], laidByText := true, laidKinds := [.data, .pinned], laidTests := true, laidLooks := .later }
def ScrubCountsCardSaid : Prop := Claim7.holds Tryz.pinned (.plain (OpenSpec.ofChange scrubCountsSpec)) scrubCountsCard

/-- THE TIED CARD OF 'sheetpilelaw17.ScrubMends'. -/
def scrubMendsCard : Claim7 := { stood := { row := scrubMendsRow, standIns := [], harness := (true, "7846a88d40413f8de0dcdb2b33f1214c6726dece3851fbd56e4d8c2ff6a792e1"), looks := true }, kinds := [], alts := [], laidByText := true, laidKinds := [.data, .pinned], laidTests := true, laidLooks := .later }
def ScrubMendsCardSaid : Prop := Claim7.holds Tryz.pinned (.plain (OpenSpec.ofChange scrubMendsSpec)) scrubMendsCard

/-- THE TIED CARD OF 'sheetpilelaw17.ScrubLoses'. -/
def scrubLosesCard : Claim7 := { stood := { row := scrubLosesRow, standIns := [], harness := (true, "7846a88d40413f8de0dcdb2b33f1214c6726dece3851fbd56e4d8c2ff6a792e1"), looks := true }, kinds := [], alts := [], laidByText := true, laidKinds := [.data, .pinned], laidTests := true, laidLooks := .later }
def ScrubLosesCardSaid : Prop := Claim7.holds Tryz.pinned (.plain (OpenSpec.ofChange scrubLosesSpec)) scrubLosesCard

/-- THE TIED CARD OF 'sheetpilelaw18.RebuildStands'. -/
def rebuildStandsCard : Claim7 := { stood := { row := rebuildStandsRow, standIns := [], harness := (true, "7846a88d40413f8de0dcdb2b33f1214c6726dece3851fbd56e4d8c2ff6a792e1"), looks := true }, kinds := [], alts := [], laidByText := true, laidKinds := [.data, .pinned], laidTests := true, laidLooks := .later }
def RebuildStandsCardSaid : Prop := Claim7.holds Tryz.pinned (.plain (OpenSpec.ofChange rebuildStandsSpec)) rebuildStandsCard

/-- THE TIED CARD OF 'sheetpilelaw18.RebuildSteps'. -/
def rebuildStepsCard : Claim7 := { stood := { row := rebuildStepsRow, standIns := [], harness := (true, "7846a88d40413f8de0dcdb2b33f1214c6726dece3851fbd56e4d8c2ff6a792e1"), looks := true }, kinds := [], alts := [], laidByText := true, laidKinds := [.data, .pinned], laidTests := true, laidLooks := .later }
def RebuildStepsCardSaid : Prop := Claim7.holds Tryz.pinned (.plain (OpenSpec.ofChange rebuildStepsSpec)) rebuildStepsCard

/-- THE TIED CARD OF 'sheetpilelaw18.RebuildNil'. -/
def rebuildNilCard : Claim7 := { stood := { row := rebuildNilRow, standIns := [], harness := (true, "7846a88d40413f8de0dcdb2b33f1214c6726dece3851fbd56e4d8c2ff6a792e1"), looks := true }, kinds := [], alts := [], laidByText := true, laidKinds := [.data, .pinned], laidTests := true, laidLooks := .later }
def RebuildNilCardSaid : Prop := Claim7.holds Tryz.pinned (.plain (OpenSpec.ofChange rebuildNilSpec)) rebuildNilCard

/-- THE TIED CARD OF 'sheetpilelaw18.RebuildWrites'. -/
def rebuildWritesCard : Claim7 := { stood := { row := rebuildWritesRow, standIns := [], harness := (true, "7846a88d40413f8de0dcdb2b33f1214c6726dece3851fbd56e4d8c2ff6a792e1"), looks := true }, kinds := [], alts := [], laidByText := true, laidKinds := [.data, .pinned], laidTests := true, laidLooks := .later }
def RebuildWritesCardSaid : Prop := Claim7.holds Tryz.pinned (.plain (OpenSpec.ofChange rebuildWritesSpec)) rebuildWritesCard

/-- THE SECOND FORM's CARD OF 'sheetpilelaw17.ScrubWhole'. -/
def scrubWholeUptoCard : Claim7 := { stood := { row := scrubWholeUptoRow, standIns := [], harness := (true, "7846a88d40413f8de0dcdb2b33f1214c6726dece3851fbd56e4d8c2ff6a792e1"), looks := true }, kinds := [], alts := [], laidByText := true, laidKinds := [.data, .pinned], laidTests := true, laidLooks := .later }
def ScrubWholeUptoCardSaid : Prop := Claim7.holds Tryz.pinned (.plain (OpenSpec.upto scrubWholeSpec)) scrubWholeUptoCard

/-- THE SECOND FORM's CARD OF 'sheetpilelaw17.ScrubCounts'. -/
def scrubCountsUptoCard : Claim7 := { stood := { row := scrubCountsUptoRow, standIns := [], harness := (true, "7846a88d40413f8de0dcdb2b33f1214c6726dece3851fbd56e4d8c2ff6a792e1"), looks := true }, kinds := [], alts := [], laidByText := true, laidKinds := [.data, .pinned], laidTests := true, laidLooks := .later }
def ScrubCountsUptoCardSaid : Prop := Claim7.holds Tryz.pinned (.plain (OpenSpec.upto scrubCountsSpec)) scrubCountsUptoCard

/-- THE SECOND FORM's CARD OF 'sheetpilelaw17.ScrubMends'. -/
def scrubMendsUptoCard : Claim7 := { stood := { row := scrubMendsUptoRow, standIns := [], harness := (true, "7846a88d40413f8de0dcdb2b33f1214c6726dece3851fbd56e4d8c2ff6a792e1"), looks := true }, kinds := [], alts := [], laidByText := true, laidKinds := [.data, .pinned], laidTests := true, laidLooks := .later }
def ScrubMendsUptoCardSaid : Prop := Claim7.holds Tryz.pinned (.plain (OpenSpec.upto scrubMendsSpec)) scrubMendsUptoCard

/-- THE SECOND FORM's CARD OF 'sheetpilelaw17.ScrubLoses'. -/
def scrubLosesUptoCard : Claim7 := { stood := { row := scrubLosesUptoRow, standIns := [], harness := (true, "7846a88d40413f8de0dcdb2b33f1214c6726dece3851fbd56e4d8c2ff6a792e1"), looks := true }, kinds := [], alts := [], laidByText := true, laidKinds := [.data, .pinned], laidTests := true, laidLooks := .later }
def ScrubLosesUptoCardSaid : Prop := Claim7.holds Tryz.pinned (.plain (OpenSpec.upto scrubLosesSpec)) scrubLosesUptoCard

/-- THE SECOND FORM's CARD OF 'sheetpilelaw18.RebuildStands'. -/
def rebuildStandsUptoCard : Claim7 := { stood := { row := rebuildStandsUptoRow, standIns := [], harness := (true, "7846a88d40413f8de0dcdb2b33f1214c6726dece3851fbd56e4d8c2ff6a792e1"), looks := true }, kinds := [], alts := [], laidByText := true, laidKinds := [.data, .pinned], laidTests := true, laidLooks := .later }
def RebuildStandsUptoCardSaid : Prop := Claim7.holds Tryz.pinned (.plain (OpenSpec.upto rebuildStandsSpec)) rebuildStandsUptoCard

/-- THE SECOND FORM's CARD OF 'sheetpilelaw18.RebuildSteps'. -/
def rebuildStepsUptoCard : Claim7 := { stood := { row := rebuildStepsUptoRow, standIns := [], harness := (true, "7846a88d40413f8de0dcdb2b33f1214c6726dece3851fbd56e4d8c2ff6a792e1"), looks := true }, kinds := [], alts := [], laidByText := true, laidKinds := [.data, .pinned], laidTests := true, laidLooks := .later }
def RebuildStepsUptoCardSaid : Prop := Claim7.holds Tryz.pinned (.plain (OpenSpec.upto rebuildStepsSpec)) rebuildStepsUptoCard

/-- THE SECOND FORM's CARD OF 'sheetpilelaw18.RebuildNil'. -/
def rebuildNilUptoCard : Claim7 := { stood := { row := rebuildNilUptoRow, standIns := [], harness := (true, "7846a88d40413f8de0dcdb2b33f1214c6726dece3851fbd56e4d8c2ff6a792e1"), looks := true }, kinds := [], alts := [], laidByText := true, laidKinds := [.data, .pinned], laidTests := true, laidLooks := .later }
def RebuildNilUptoCardSaid : Prop := Claim7.holds Tryz.pinned (.plain (OpenSpec.upto rebuildNilSpec)) rebuildNilUptoCard

/-- THE SECOND FORM's CARD OF 'sheetpilelaw18.RebuildWrites'. -/
def rebuildWritesUptoCard : Claim7 := { stood := { row := rebuildWritesUptoRow, standIns := [], harness := (true, "7846a88d40413f8de0dcdb2b33f1214c6726dece3851fbd56e4d8c2ff6a792e1"), looks := true }, kinds := [], alts := [], laidByText := true, laidKinds := [.data, .pinned], laidTests := true, laidLooks := .later }
def RebuildWritesUptoCardSaid : Prop := Claim7.holds Tryz.pinned (.plain (OpenSpec.upto rebuildWritesSpec)) rebuildWritesUptoCard
end Rows
end Go.Proofs.YtngbipjclpncoaaGreatDoor
