/-
  DERIVED. GIVEN WITH THE SEED: THE CARDS: each row of YtpabfpccpbakfaaGreatDoorRows.lean that lists a variable, with what it lists TIED to the program's text (the seventh form; the later family's looks); each row that meets fmt, with fmt's text TOLD by the authors' own Lean function (tested against real Go, not proved from fmt's source: count such statements apart). THE CARD IS WHAT COUNTS. Prove the row's statement (the work); the ties are given (YtpabfpccpbakfaaGreatDoorTie.lean); close each card by the builder's one call (the guide's Derived/Test/ToyasCard.lean, 'card_holds'). Laid BY PROGRAM, IN A SANDBOX (cutbox-door.mjs). By AI agents, Wed Nov 11 2026. No macro, syntax, notation, axiom, sorry.
-/
import Derived.Test.YtpabfpccpbakfaaGreatDoorRows
import GoSem.ClaimSeven
namespace Go.Proofs.YtpabfpccpbakfaaGreatDoor
namespace Rows

/-- THE TIED CARD OF 'sheetpilelaw17.ScrubSteps'. -/
def scrubStepsCard : Claim7 := { stood := { row := scrubStepsRow, standIns := [], harness := (true, "73e42d2e767d34ec6a0d280256a251a716ac408de77d8b8efb2c4694cdc77818"), looks := true }, kinds := [], alts := [], laidByText := true, laidKinds := [.data, .pinned], laidTests := true, laidLooks := .later }
def ScrubStepsCardSaid : Prop := Claim7.holds Tryz.pinned (.plain (OpenSpec.ofChange scrubStepsSpec)) scrubStepsCard

/-- THE TIED CARD OF 'sheetpilelaw18.RebuildCrash'. -/
def rebuildCrashCard : Claim7 := { stood := { row := rebuildCrashRow, standIns := [], harness := (true, "73e42d2e767d34ec6a0d280256a251a716ac408de77d8b8efb2c4694cdc77818"), looks := true }, kinds := [], alts := [], laidByText := true, laidKinds := [.data, .pinned], laidTests := true, laidLooks := .later }
def RebuildCrashCardSaid : Prop := Claim7.holds Tryz.pinned (.plain (OpenSpec.ofChange rebuildCrashSpec)) rebuildCrashCard

/-- THE SECOND FORM's CARD OF 'sheetpilelaw17.ScrubSteps'. -/
def scrubStepsUptoCard : Claim7 := { stood := { row := scrubStepsUptoRow, standIns := [], harness := (true, "73e42d2e767d34ec6a0d280256a251a716ac408de77d8b8efb2c4694cdc77818"), looks := true }, kinds := [], alts := [], laidByText := true, laidKinds := [.data, .pinned], laidTests := true, laidLooks := .later }
def ScrubStepsUptoCardSaid : Prop := Claim7.holds Tryz.pinned (.plain (OpenSpec.upto scrubStepsSpec)) scrubStepsUptoCard

/-- THE SECOND FORM's CARD OF 'sheetpilelaw18.RebuildCrash'. -/
def rebuildCrashUptoCard : Claim7 := { stood := { row := rebuildCrashUptoRow, standIns := [], harness := (true, "73e42d2e767d34ec6a0d280256a251a716ac408de77d8b8efb2c4694cdc77818"), looks := true }, kinds := [], alts := [], laidByText := true, laidKinds := [.data, .pinned], laidTests := true, laidLooks := .later }
def RebuildCrashUptoCardSaid : Prop := Claim7.holds Tryz.pinned (.plain (OpenSpec.upto rebuildCrashSpec)) rebuildCrashUptoCard
end Rows
end Go.Proofs.YtpabfpccpbakfaaGreatDoor
