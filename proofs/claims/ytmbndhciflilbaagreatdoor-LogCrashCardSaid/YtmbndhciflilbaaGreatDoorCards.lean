/-
  DERIVED. GIVEN WITH THE SEED: THE CARDS: each row of YtmbndhciflilbaaGreatDoorRows.lean that lists a variable, with what it lists TIED to the program's text (the seventh form; the later family's looks); each row that meets fmt, with fmt's text TOLD by the authors' own Lean function (tested against real Go, not proved from fmt's source: count such statements apart). THE CARD IS WHAT COUNTS. Prove the row's statement (the work); the ties are given (YtmbndhciflilbaaGreatDoorTie.lean); close each card by the builder's one call (the guide's Derived/Test/ToyasCard.lean, 'card_holds'). Laid BY PROGRAM, IN A SANDBOX (cutbox-door.mjs). By AI agents, Wed Nov 11 2026. No macro, syntax, notation, axiom, sorry.
-/
import Derived.Test.YtmbndhciflilbaaGreatDoorRows
import GoSem.ClaimSeven
namespace Go.Proofs.YtmbndhciflilbaaGreatDoor
namespace Rows

/-- THE TIED CARD OF 'sheetpilelaw22.LogScripts'. -/
def logScriptsCard : Claim7 := { stood := { row := logScriptsRow, standIns := [], harness := (true, "ede392a79083e142e5cca7e1aabfd706e3297f33985cd9c8b7737f15df022334"), looks := true }, kinds := [], alts := [], laidByText := true, laidKinds := [.data, .pinned], laidTests := true, laidLooks := .later }
def LogScriptsCardSaid : Prop := Claim7.holds Tryz.pinned (.plain (OpenSpec.ofChange logScriptsSpec)) logScriptsCard

/-- THE TIED CARD OF 'sheetpilelaw22.LogNil'. -/
def logNilCard : Claim7 := { stood := { row := logNilRow, standIns := [], harness := (true, "ede392a79083e142e5cca7e1aabfd706e3297f33985cd9c8b7737f15df022334"), looks := true }, kinds := [], alts := [], laidByText := true, laidKinds := [.data, .pinned], laidTests := true, laidLooks := .later }
def LogNilCardSaid : Prop := Claim7.holds Tryz.pinned (.plain (OpenSpec.ofChange logNilSpec)) logNilCard

/-- THE TIED CARD OF 'sheetpilelaw22.LogParts'. -/
def logPartsCard : Claim7 := { stood := { row := logPartsRow, standIns := [], harness := (true, "ede392a79083e142e5cca7e1aabfd706e3297f33985cd9c8b7737f15df022334"), looks := true }, kinds := [], alts := [], laidByText := true, laidKinds := [.data, .pinned], laidTests := true, laidLooks := .later }
def LogPartsCardSaid : Prop := Claim7.holds Tryz.pinned (.plain (OpenSpec.ofChange logPartsSpec)) logPartsCard

/-- THE TIED CARD OF 'sheetpilelaw22.LogFull'. -/
def logFullCard : Claim7 := { stood := { row := logFullRow, standIns := [], harness := (true, "ede392a79083e142e5cca7e1aabfd706e3297f33985cd9c8b7737f15df022334"), looks := true }, kinds := [], alts := [], laidByText := true, laidKinds := [.data, .pinned], laidTests := true, laidLooks := .later }
def LogFullCardSaid : Prop := Claim7.holds Tryz.pinned (.plain (OpenSpec.ofChange logFullSpec)) logFullCard

/-- THE TIED CARD OF 'sheetpilelaw22.LogAlone'. -/
def logAloneCard : Claim7 := { stood := { row := logAloneRow, standIns := [], harness := (true, "ede392a79083e142e5cca7e1aabfd706e3297f33985cd9c8b7737f15df022334"), looks := true }, kinds := [], alts := [], laidByText := true, laidKinds := [.data, .pinned], laidTests := true, laidLooks := .later }
def LogAloneCardSaid : Prop := Claim7.holds Tryz.pinned (.plain (OpenSpec.ofChange logAloneSpec)) logAloneCard

/-- THE TIED CARD OF 'sheetpilelaw22.LogCrash'. -/
def logCrashCard : Claim7 := { stood := { row := logCrashRow, standIns := [], harness := (true, "ede392a79083e142e5cca7e1aabfd706e3297f33985cd9c8b7737f15df022334"), looks := true }, kinds := [], alts := [], laidByText := true, laidKinds := [.data, .pinned], laidTests := true, laidLooks := .later }
def LogCrashCardSaid : Prop := Claim7.holds Tryz.pinned (.plain (OpenSpec.ofChange logCrashSpec)) logCrashCard

/-- THE SECOND FORM's CARD OF 'sheetpilelaw22.LogScripts'. -/
def logScriptsUptoCard : Claim7 := { stood := { row := logScriptsUptoRow, standIns := [], harness := (true, "ede392a79083e142e5cca7e1aabfd706e3297f33985cd9c8b7737f15df022334"), looks := true }, kinds := [], alts := [], laidByText := true, laidKinds := [.data, .pinned], laidTests := true, laidLooks := .later }
def LogScriptsUptoCardSaid : Prop := Claim7.holds Tryz.pinned (.plain (OpenSpec.upto logScriptsSpec)) logScriptsUptoCard

/-- THE SECOND FORM's CARD OF 'sheetpilelaw22.LogNil'. -/
def logNilUptoCard : Claim7 := { stood := { row := logNilUptoRow, standIns := [], harness := (true, "ede392a79083e142e5cca7e1aabfd706e3297f33985cd9c8b7737f15df022334"), looks := true }, kinds := [], alts := [], laidByText := true, laidKinds := [.data, .pinned], laidTests := true, laidLooks := .later }
def LogNilUptoCardSaid : Prop := Claim7.holds Tryz.pinned (.plain (OpenSpec.upto logNilSpec)) logNilUptoCard

/-- THE SECOND FORM's CARD OF 'sheetpilelaw22.LogParts'. -/
def logPartsUptoCard : Claim7 := { stood := { row := logPartsUptoRow, standIns := [], harness := (true, "ede392a79083e142e5cca7e1aabfd706e3297f33985cd9c8b7737f15df022334"), looks := true }, kinds := [], alts := [], laidByText := true, laidKinds := [.data, .pinned], laidTests := true, laidLooks := .later }
def LogPartsUptoCardSaid : Prop := Claim7.holds Tryz.pinned (.plain (OpenSpec.upto logPartsSpec)) logPartsUptoCard

/-- THE SECOND FORM's CARD OF 'sheetpilelaw22.LogFull'. -/
def logFullUptoCard : Claim7 := { stood := { row := logFullUptoRow, standIns := [], harness := (true, "ede392a79083e142e5cca7e1aabfd706e3297f33985cd9c8b7737f15df022334"), looks := true }, kinds := [], alts := [], laidByText := true, laidKinds := [.data, .pinned], laidTests := true, laidLooks := .later }
def LogFullUptoCardSaid : Prop := Claim7.holds Tryz.pinned (.plain (OpenSpec.upto logFullSpec)) logFullUptoCard

/-- THE SECOND FORM's CARD OF 'sheetpilelaw22.LogAlone'. -/
def logAloneUptoCard : Claim7 := { stood := { row := logAloneUptoRow, standIns := [], harness := (true, "ede392a79083e142e5cca7e1aabfd706e3297f33985cd9c8b7737f15df022334"), looks := true }, kinds := [], alts := [], laidByText := true, laidKinds := [.data, .pinned], laidTests := true, laidLooks := .later }
def LogAloneUptoCardSaid : Prop := Claim7.holds Tryz.pinned (.plain (OpenSpec.upto logAloneSpec)) logAloneUptoCard

/-- THE SECOND FORM's CARD OF 'sheetpilelaw22.LogCrash'. -/
def logCrashUptoCard : Claim7 := { stood := { row := logCrashUptoRow, standIns := [], harness := (true, "ede392a79083e142e5cca7e1aabfd706e3297f33985cd9c8b7737f15df022334"), looks := true }, kinds := [], alts := [], laidByText := true, laidKinds := [.data, .pinned], laidTests := true, laidLooks := .later }
def LogCrashUptoCardSaid : Prop := Claim7.holds Tryz.pinned (.plain (OpenSpec.upto logCrashSpec)) logCrashUptoCard
end Rows
end Go.Proofs.YtmbndhciflilbaaGreatDoor
