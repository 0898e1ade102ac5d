/-
  DERIVED. GIVEN WITH THE SEED: THE CARDS: each row of YtjcnihmbpakipaaGreatDoorRows.lean that lists a variable, with what it lists TIED to the program's text (the seventh form; the later family's looks); each row that meets fmt, with fmt's text TOLD by the authors' own Lean function (tested against real Go, not proved from fmt's source: count such statements apart). THE CARD IS WHAT COUNTS. Prove the row's statement (the work); the ties are given (YtjcnihmbpakipaaGreatDoorTie.lean); close each card by the builder's one call (the guide's Derived/Test/ToyasCard.lean, 'card_holds'). Laid BY PROGRAM, IN A SANDBOX (cutbox-door.mjs). By AI agents, Wed Nov 11 2026. No macro, syntax, notation, axiom, sorry.
-/
import Derived.Test.YtjcnihmbpakipaaGreatDoorRows
import GoSem.ClaimSeven
namespace Go.Proofs.YtjcnihmbpakipaaGreatDoor
namespace Rows

/-- THE TIED CARD OF 'sheetpilelaw16.VolumeAlone'. -/
def volumeAloneCard : Claim7 := { stood := { row := volumeAloneRow, standIns := [], harness := (true, "c053fc2c2bca4b1063aada4d7a27e4fd8647df85f2f34432e1bb9c201ae13cf2"), looks := true }, kinds := [], alts := [], laidByText := true, laidKinds := [.data, .pinned], laidTests := true, laidLooks := .later }
def VolumeAloneCardSaid : Prop := Claim7.holds Tryz.pinned (.plain (OpenSpec.ofChange volumeAloneSpec)) volumeAloneCard

/-- THE TIED CARD OF 'sheetpilelaw16.VolumeLost'. -/
def volumeLostCard : Claim7 := { stood := { row := volumeLostRow, standIns := [], harness := (true, "c053fc2c2bca4b1063aada4d7a27e4fd8647df85f2f34432e1bb9c201ae13cf2"), looks := true }, kinds := [], alts := [], laidByText := true, laidKinds := [.data, .pinned], laidTests := true, laidLooks := .later }
def VolumeLostCardSaid : Prop := Claim7.holds Tryz.pinned (.plain (OpenSpec.ofChange volumeLostSpec)) volumeLostCard

/-- THE TIED CARD OF 'sheetpilelaw16.VolumeTwice'. -/
def volumeTwiceCard : Claim7 := { stood := { row := volumeTwiceRow, standIns := [], harness := (true, "c053fc2c2bca4b1063aada4d7a27e4fd8647df85f2f34432e1bb9c201ae13cf2"), looks := true }, kinds := [], alts := [], laidByText := true, laidKinds := [.data, .pinned], laidTests := true, laidLooks := .later }
def VolumeTwiceCardSaid : Prop := Claim7.holds Tryz.pinned (.plain (OpenSpec.ofChange volumeTwiceSpec)) volumeTwiceCard

/-- THE TIED CARD OF 'sheetpilelaw16.VolumeNil'. -/
def volumeNilCard : Claim7 := { stood := { row := volumeNilRow, standIns := [], harness := (true, "c053fc2c2bca4b1063aada4d7a27e4fd8647df85f2f34432e1bb9c201ae13cf2"), looks := true }, kinds := [], alts := [], laidByText := true, laidKinds := [.data, .pinned], laidTests := true, laidLooks := .later }
def VolumeNilCardSaid : Prop := Claim7.holds Tryz.pinned (.plain (OpenSpec.ofChange volumeNilSpec)) volumeNilCard

/-- THE TIED CARD OF 'sheetpilelaw16.VolumeScripts'. -/
def volumeScriptsCard : Claim7 := { stood := { row := volumeScriptsRow, standIns := [], harness := (true, "c053fc2c2bca4b1063aada4d7a27e4fd8647df85f2f34432e1bb9c201ae13cf2"), looks := true }, kinds := [], alts := [], laidByText := true, laidKinds := [.data, .pinned], laidTests := true, laidLooks := .later }
def VolumeScriptsCardSaid : Prop := Claim7.holds Tryz.pinned (.plain (OpenSpec.ofChange volumeScriptsSpec)) volumeScriptsCard

/-- THE TIED CARD OF 'sheetpilelaw16.VolumeCrash'. -/
def volumeCrashCard : Claim7 := { stood := { row := volumeCrashRow, standIns := [], harness := (true, "c053fc2c2bca4b1063aada4d7a27e4fd8647df85f2f34432e1bb9c201ae13cf2"), looks := true }, kinds := [], alts := [], laidByText := true, laidKinds := [.data, .pinned], laidTests := true, laidLooks := .later }
def VolumeCrashCardSaid : Prop := Claim7.holds Tryz.pinned (.plain (OpenSpec.ofChange volumeCrashSpec)) volumeCrashCard

/-- THE SECOND FORM's CARD OF 'sheetpilelaw16.VolumeAlone'. -/
def volumeAloneUptoCard : Claim7 := { stood := { row := volumeAloneUptoRow, standIns := [], harness := (true, "c053fc2c2bca4b1063aada4d7a27e4fd8647df85f2f34432e1bb9c201ae13cf2"), looks := true }, kinds := [], alts := [], laidByText := true, laidKinds := [.data, .pinned], laidTests := true, laidLooks := .later }
def VolumeAloneUptoCardSaid : Prop := Claim7.holds Tryz.pinned (.plain (OpenSpec.upto volumeAloneSpec)) volumeAloneUptoCard

/-- THE SECOND FORM's CARD OF 'sheetpilelaw16.VolumeLost'. -/
def volumeLostUptoCard : Claim7 := { stood := { row := volumeLostUptoRow, standIns := [], harness := (true, "c053fc2c2bca4b1063aada4d7a27e4fd8647df85f2f34432e1bb9c201ae13cf2"), looks := true }, kinds := [], alts := [], laidByText := true, laidKinds := [.data, .pinned], laidTests := true, laidLooks := .later }
def VolumeLostUptoCardSaid : Prop := Claim7.holds Tryz.pinned (.plain (OpenSpec.upto volumeLostSpec)) volumeLostUptoCard

/-- THE SECOND FORM's CARD OF 'sheetpilelaw16.VolumeTwice'. -/
def volumeTwiceUptoCard : Claim7 := { stood := { row := volumeTwiceUptoRow, standIns := [], harness := (true, "c053fc2c2bca4b1063aada4d7a27e4fd8647df85f2f34432e1bb9c201ae13cf2"), looks := true }, kinds := [], alts := [], laidByText := true, laidKinds := [.data, .pinned], laidTests := true, laidLooks := .later }
def VolumeTwiceUptoCardSaid : Prop := Claim7.holds Tryz.pinned (.plain (OpenSpec.upto volumeTwiceSpec)) volumeTwiceUptoCard

/-- THE SECOND FORM's CARD OF 'sheetpilelaw16.VolumeNil'. -/
def volumeNilUptoCard : Claim7 := { stood := { row := volumeNilUptoRow, standIns := [], harness := (true, "c053fc2c2bca4b1063aada4d7a27e4fd8647df85f2f34432e1bb9c201ae13cf2"), looks := true }, kinds := [], alts := [], laidByText := true, laidKinds := [.data, .pinned], laidTests := true, laidLooks := .later }
def VolumeNilUptoCardSaid : Prop := Claim7.holds Tryz.pinned (.plain (OpenSpec.upto volumeNilSpec)) volumeNilUptoCard

/-- THE SECOND FORM's CARD OF 'sheetpilelaw16.VolumeScripts'. -/
def volumeScriptsUptoCard : Claim7 := { stood := { row := volumeScriptsUptoRow, standIns := [], harness := (true, "c053fc2c2bca4b1063aada4d7a27e4fd8647df85f2f34432e1bb9c201ae13cf2"), looks := true }, kinds := [], alts := [], laidByText := true, laidKinds := [.data, .pinned], laidTests := true, laidLooks := .later }
def VolumeScriptsUptoCardSaid : Prop := Claim7.holds Tryz.pinned (.plain (OpenSpec.upto volumeScriptsSpec)) volumeScriptsUptoCard

/-- THE SECOND FORM's CARD OF 'sheetpilelaw16.VolumeCrash'. -/
def volumeCrashUptoCard : Claim7 := { stood := { row := volumeCrashUptoRow, standIns := [], harness := (true, "c053fc2c2bca4b1063aada4d7a27e4fd8647df85f2f34432e1bb9c201ae13cf2"), looks := true }, kinds := [], alts := [], laidByText := true, laidKinds := [.data, .pinned], laidTests := true, laidLooks := .later }
def VolumeCrashUptoCardSaid : Prop := Claim7.holds Tryz.pinned (.plain (OpenSpec.upto volumeCrashSpec)) volumeCrashUptoCard
end Rows
end Go.Proofs.YtjcnihmbpakipaaGreatDoor
