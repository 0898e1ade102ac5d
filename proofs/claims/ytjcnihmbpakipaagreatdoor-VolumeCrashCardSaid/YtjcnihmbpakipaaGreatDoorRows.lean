/-
  NARROWER THAN 'FOR EVERY INPUT', by the rows' own cells (each row's printed sentence says how): VolumeAlone: laid · VolumeLost: laid · VolumeTwice: laid · VolumeNil: laid · VolumeScripts: laid · VolumeCrash: laid.
  DERIVED. THE GIVEN ROWS OF THIS SEAT. 6 by the template 'for every input the law returns true; each argument reads behind the call as it read before'; 0 by the template 'total and deterministic' (their statements: YtjcnihmbpakipaaGreatDoorTotals.lean).
  GIVEN WITH THE SEED: the statements are not yours to turn. If you find one false, say at which input.
  Laid BY PROGRAM, IN A SANDBOX (cutbox-rows.mjs): the forced cells as the released guide's own fill.sh prints them over the translation afd7c8f87c79c5be… (all of the seat's roots in one cut). By AI agents, Wed Nov 11 2026. No macro, syntax, notation, axiom, sorry.
-/
import Derived.Test.YtjcnihmbpakipaaGreatDoorChecked
import GoSem.PinnedTables
import GoSem.Claim
import GoSem.ClaimJoined
import GoSem.ClaimMapViews
import Derived.JoinedTies
import Derived.KernelRfl
namespace Go.Proofs.YtjcnihmbpakipaaGreatDoor
/- THE CELL 'sum', in the pinned program and in every row, IS THE sha256 OF THE DUMP (.gsa) THAT YtjcnihmbpakipaaGreatDoorProg.lean LOADS. Nothing in Lean hashes anything: it is a label: what it is worth is what the hold of that sum in a sandbox is worth. -/
noncomputable def Tryz.pinned : Pinned := { name := "ytjcnihmbpakipaagreatdoor", sum := "afd7c8f87c79c5bef4f1c8a6bbe00f9db95d392da2ee280c82189a265f27d9c6", checked := Tryz.checked }
namespace Rows
def none {H : Type} : Left H := { results := [], args := [] }

/- WHAT THE LISTED PACKAGE-LEVEL VARIABLES READ AS WHEN THE CALL BEGINS. Each datum BY PROGRAM (the guide's laid-datum.mjs) off the statement by which the dump's own 'gosem.cut.vars' lays the variable. In a bare row this is a premise. The card (YtjcnihmbpakipaaGreatDoorCards.lean) ties it to the program's text. -/
def laid_unicode_utf8_acceptRanges {H : Type} : DataW H := .agg [.agg [.lit (.int .u8 128), .lit (.int .u8 191)], .agg [.lit (.int .u8 160), .lit (.int .u8 191)], .agg [.lit (.int .u8 128), .lit (.int .u8 159)], .agg [.lit (.int .u8 144), .lit (.int .u8 191)], .agg [.lit (.int .u8 128), .lit (.int .u8 143)], .agg [.lit (.int .u8 0), .lit (.int .u8 0)], .agg [.lit (.int .u8 0), .lit (.int .u8 0)], .agg [.lit (.int .u8 0), .lit (.int .u8 0)], .agg [.lit (.int .u8 0), .lit (.int .u8 0)], .agg [.lit (.int .u8 0), .lit (.int .u8 0)], .agg [.lit (.int .u8 0), .lit (.int .u8 0)], .agg [.lit (.int .u8 0), .lit (.int .u8 0)], .agg [.lit (.int .u8 0), .lit (.int .u8 0)], .agg [.lit (.int .u8 0), .lit (.int .u8 0)], .agg [.lit (.int .u8 0), .lit (.int .u8 0)], .agg [.lit (.int .u8 0), .lit (.int .u8 0)]]
/-- One of Go's own tables, pinned by name: the form's constant. -/
def laid_unicode_utf8_first : DataW Unit := Go.Pinned.utf8First

/-- 'sheetpilelaw16.VolumeAlone': WHATEVER THE INPUT: true; the input reads as it did. -/
def volumeAloneSpec : ChangeSpec := { name := "volumeAlone", fn := fun _ => fun
  | [d] => { results := [.lit (.bool true)], args := [d] }
  | _ => none }
def volumeAloneRow : OpenClaim := { program := "ytjcnihmbpakipaagreatdoor", sum := "afd7c8f87c79c5bef4f1c8a6bbe00f9db95d392da2ee280c82189a265f27d9c6", func := "sheetpile/sheetpilelaw16.VolumeAlone", spec := "volumeAlone", inPlace := ["internal/abi.NoEscape", "internal/bytealg.MakeNoZero", "internal/bytealg.IndexByteString", "internal/bytealg.IndexString"], unfollowed := true, recurses := true, named := ["unicode/utf8.first", "unicode/utf8.acceptRanges", "internal/bytealg.MaxLen"], apart := false, laid := [("unicode/utf8.acceptRanges", laid_unicode_utf8_acceptRanges), ("unicode/utf8.first", laid_unicode_utf8_first)] }
def VolumeAloneSaid : Prop := volumeAloneRow.holds Tryz.pinned (OpenSpec.ofChange volumeAloneSpec)

/-- ITS FALSE NEIGHBOUR: 'it returns false'. Refute it at one input. -/
def volumeAloneWrong : ChangeSpec := { name := "volumeAlone", fn := fun _ => fun
  | [d] => { results := [.lit (.bool false)], args := [d] }
  | _ => none }
def VolumeAloneWrongFalsely : Prop := volumeAloneRow.holds Tryz.pinned (OpenSpec.ofChange volumeAloneWrong)

/-- 'sheetpilelaw16.VolumeLost': WHATEVER THE INPUT: true; the input reads as it did. -/
def volumeLostSpec : ChangeSpec := { name := "volumeLost", fn := fun _ => fun
  | [d1, d2, d3] => { results := [.lit (.bool true)], args := [d1, d2, d3] }
  | _ => none }
def volumeLostRow : OpenClaim := { program := "ytjcnihmbpakipaagreatdoor", sum := "afd7c8f87c79c5bef4f1c8a6bbe00f9db95d392da2ee280c82189a265f27d9c6", func := "sheetpile/sheetpilelaw16.VolumeLost", spec := "volumeLost", inPlace := ["internal/abi.NoEscape", "internal/bytealg.MakeNoZero", "internal/bytealg.IndexByteString", "internal/bytealg.IndexString"], unfollowed := true, recurses := true, named := ["unicode/utf8.first", "unicode/utf8.acceptRanges", "internal/bytealg.MaxLen"], apart := false, laid := [("unicode/utf8.acceptRanges", laid_unicode_utf8_acceptRanges), ("unicode/utf8.first", laid_unicode_utf8_first)] }
def VolumeLostSaid : Prop := volumeLostRow.holds Tryz.pinned (OpenSpec.ofChange volumeLostSpec)

/-- ITS FALSE NEIGHBOUR: 'it returns false'. Refute it at one input. -/
def volumeLostWrong : ChangeSpec := { name := "volumeLost", fn := fun _ => fun
  | [d1, d2, d3] => { results := [.lit (.bool false)], args := [d1, d2, d3] }
  | _ => none }
def VolumeLostWrongFalsely : Prop := volumeLostRow.holds Tryz.pinned (OpenSpec.ofChange volumeLostWrong)

/-- 'sheetpilelaw16.VolumeTwice': WHATEVER THE INPUT: true; the input reads as it did. -/
def volumeTwiceSpec : ChangeSpec := { name := "volumeTwice", fn := fun _ => fun
  | [d1, d2] => { results := [.lit (.bool true)], args := [d1, d2] }
  | _ => none }
def volumeTwiceRow : OpenClaim := { program := "ytjcnihmbpakipaagreatdoor", sum := "afd7c8f87c79c5bef4f1c8a6bbe00f9db95d392da2ee280c82189a265f27d9c6", func := "sheetpile/sheetpilelaw16.VolumeTwice", spec := "volumeTwice", inPlace := ["internal/abi.NoEscape", "internal/bytealg.MakeNoZero", "internal/bytealg.IndexByteString", "internal/bytealg.IndexString"], unfollowed := true, recurses := true, named := ["unicode/utf8.first", "unicode/utf8.acceptRanges", "internal/bytealg.MaxLen"], apart := false, laid := [("unicode/utf8.acceptRanges", laid_unicode_utf8_acceptRanges), ("unicode/utf8.first", laid_unicode_utf8_first)] }
def VolumeTwiceSaid : Prop := volumeTwiceRow.holds Tryz.pinned (OpenSpec.ofChange volumeTwiceSpec)

/-- ITS FALSE NEIGHBOUR: 'it returns false'. Refute it at one input. -/
def volumeTwiceWrong : ChangeSpec := { name := "volumeTwice", fn := fun _ => fun
  | [d1, d2] => { results := [.lit (.bool false)], args := [d1, d2] }
  | _ => none }
def VolumeTwiceWrongFalsely : Prop := volumeTwiceRow.holds Tryz.pinned (OpenSpec.ofChange volumeTwiceWrong)

/-- 'sheetpilelaw16.VolumeNil': WHATEVER THE INPUT: true; the input reads as it did. -/
def volumeNilSpec : ChangeSpec := { name := "volumeNil", fn := fun _ => fun
  | [d1, d2] => { results := [.lit (.bool true)], args := [d1, d2] }
  | _ => none }
def volumeNilRow : OpenClaim := { program := "ytjcnihmbpakipaagreatdoor", sum := "afd7c8f87c79c5bef4f1c8a6bbe00f9db95d392da2ee280c82189a265f27d9c6", func := "sheetpile/sheetpilelaw16.VolumeNil", spec := "volumeNil", inPlace := ["internal/abi.NoEscape", "internal/bytealg.MakeNoZero", "internal/bytealg.IndexByteString", "internal/bytealg.IndexString"], unfollowed := true, recurses := true, named := ["unicode/utf8.first", "unicode/utf8.acceptRanges", "internal/bytealg.MaxLen"], apart := false, laid := [("unicode/utf8.acceptRanges", laid_unicode_utf8_acceptRanges), ("unicode/utf8.first", laid_unicode_utf8_first)] }
def VolumeNilSaid : Prop := volumeNilRow.holds Tryz.pinned (OpenSpec.ofChange volumeNilSpec)

/-- ITS FALSE NEIGHBOUR: 'it returns false'. Refute it at one input. -/
def volumeNilWrong : ChangeSpec := { name := "volumeNil", fn := fun _ => fun
  | [d1, d2] => { results := [.lit (.bool false)], args := [d1, d2] }
  | _ => none }
def VolumeNilWrongFalsely : Prop := volumeNilRow.holds Tryz.pinned (OpenSpec.ofChange volumeNilWrong)

/-- 'sheetpilelaw16.VolumeScripts': WHATEVER THE INPUT: true; the input reads as it did. -/
def volumeScriptsSpec : ChangeSpec := { name := "volumeScripts", fn := fun _ => fun
  | [d1, d2] => { results := [.lit (.bool true)], args := [d1, d2] }
  | _ => none }
def volumeScriptsRow : OpenClaim := { program := "ytjcnihmbpakipaagreatdoor", sum := "afd7c8f87c79c5bef4f1c8a6bbe00f9db95d392da2ee280c82189a265f27d9c6", func := "sheetpile/sheetpilelaw16.VolumeScripts", spec := "volumeScripts", inPlace := ["internal/abi.NoEscape", "internal/bytealg.MakeNoZero", "internal/bytealg.IndexByteString", "internal/bytealg.IndexString"], unfollowed := true, recurses := true, named := ["unicode/utf8.first", "unicode/utf8.acceptRanges", "internal/bytealg.MaxLen"], apart := false, laid := [("unicode/utf8.acceptRanges", laid_unicode_utf8_acceptRanges), ("unicode/utf8.first", laid_unicode_utf8_first)] }
def VolumeScriptsSaid : Prop := volumeScriptsRow.holds Tryz.pinned (OpenSpec.ofChange volumeScriptsSpec)

/-- ITS FALSE NEIGHBOUR: 'it returns false'. Refute it at one input. -/
def volumeScriptsWrong : ChangeSpec := { name := "volumeScripts", fn := fun _ => fun
  | [d1, d2] => { results := [.lit (.bool false)], args := [d1, d2] }
  | _ => none }
def VolumeScriptsWrongFalsely : Prop := volumeScriptsRow.holds Tryz.pinned (OpenSpec.ofChange volumeScriptsWrong)

/-- 'sheetpilelaw16.VolumeCrash': WHATEVER THE INPUT: true; the input reads as it did. -/
def volumeCrashSpec : ChangeSpec := { name := "volumeCrash", fn := fun _ => fun
  | [d] => { results := [.lit (.bool true)], args := [d] }
  | _ => none }
def volumeCrashRow : OpenClaim := { program := "ytjcnihmbpakipaagreatdoor", sum := "afd7c8f87c79c5bef4f1c8a6bbe00f9db95d392da2ee280c82189a265f27d9c6", func := "sheetpile/sheetpilelaw16.VolumeCrash", spec := "volumeCrash", inPlace := ["internal/abi.NoEscape", "internal/bytealg.MakeNoZero", "internal/bytealg.IndexByteString", "internal/bytealg.IndexString"], unfollowed := true, recurses := true, named := ["unicode/utf8.first", "unicode/utf8.acceptRanges", "internal/bytealg.MaxLen"], apart := false, laid := [("unicode/utf8.acceptRanges", laid_unicode_utf8_acceptRanges), ("unicode/utf8.first", laid_unicode_utf8_first)] }
def VolumeCrashSaid : Prop := volumeCrashRow.holds Tryz.pinned (OpenSpec.ofChange volumeCrashSpec)

/-- ITS FALSE NEIGHBOUR: 'it returns false'. Refute it at one input. -/
def volumeCrashWrong : ChangeSpec := { name := "volumeCrash", fn := fun _ => fun
  | [d] => { results := [.lit (.bool false)], args := [d] }
  | _ => none }
def VolumeCrashWrongFalsely : Prop := volumeCrashRow.holds Tryz.pinned (OpenSpec.ofChange volumeCrashWrong)

/- THE SECOND FORM. 'bulk': how many values and letters a reading holds, each counted each time it is reached (what is shared counts as often as it is met; a slice's spare places count too). A statement '..UptoSaid' is the law's where the arguments, and the package variables that the reading takes, are together of bulk at most 1048576: NARROWER than '..Said'. Prove '..Said' where nothing that the law and all that it calls make is longer than what came in: it says more and counts as full. Else prove '..UptoSaid'. A law counts once. -/
mutual
def uptoBulk {H : Type} : DataW H → Nat
  | .lit (.string bytes) => bytes.length + 1
  | .lit _ => 1
  | .nil => 1
  | .ptr d => uptoBulk d + 1
  | .slice elems spare => uptoBulkAll elems + uptoBulkAll spare + 1
  | .agg parts => uptoBulkAll parts + 1
  | .iface _ d => uptoBulk d + 1
  | .map entries => uptoBulkEntries entries + 1
  | .held _ => 1
def uptoBulkAll {H : Type} : List (DataW H) → Nat
  | [] => 0
  | d :: r => uptoBulk d + uptoBulkAll r
def uptoBulkEntries {H : Type} : List (Lit × DataW H) → Nat
  | [] => 0
  | x :: r => uptoBulkEntry x + uptoBulkEntries r
def uptoBulkEntry {H : Type} : Lit × DataW H → Nat
  | (.string bytes, d) => bytes.length + uptoBulk d + 1
  | (_, d) => uptoBulk d + 1
 end
def uptoSmall : (H : Type) → List (DataW H) → Bool := fun _ ds => decide (uptoBulkAll ds ≤ 1048576)
def OpenSpec.upto (s : _root_.Go.ChangeSpec) : _root_.Go.OpenSpec := { _root_.Go.OpenSpec.ofChange s with cond := some uptoSmall }

/-- 'sheetpilelaw16.VolumeAlone', WHERE WHAT IT READS IS OF BULK AT MOST 1048576: true; the input reads as it did. -/
def volumeAloneUptoRow : OpenClaim := { program := "ytjcnihmbpakipaagreatdoor", sum := "afd7c8f87c79c5bef4f1c8a6bbe00f9db95d392da2ee280c82189a265f27d9c6", func := "sheetpile/sheetpilelaw16.VolumeAlone", spec := "volumeAlone", inPlace := ["internal/abi.NoEscape", "internal/bytealg.MakeNoZero", "internal/bytealg.IndexByteString", "internal/bytealg.IndexString"], unfollowed := true, recurses := true, named := ["unicode/utf8.first", "unicode/utf8.acceptRanges", "internal/bytealg.MaxLen"], apart := false, laid := [("unicode/utf8.acceptRanges", laid_unicode_utf8_acceptRanges), ("unicode/utf8.first", laid_unicode_utf8_first)], narrowed := true }
def VolumeAloneUptoSaid : Prop := volumeAloneUptoRow.holds Tryz.pinned (OpenSpec.upto volumeAloneSpec)

/-- 'sheetpilelaw16.VolumeLost', WHERE WHAT IT READS IS OF BULK AT MOST 1048576: true; the input reads as it did. -/
def volumeLostUptoRow : OpenClaim := { program := "ytjcnihmbpakipaagreatdoor", sum := "afd7c8f87c79c5bef4f1c8a6bbe00f9db95d392da2ee280c82189a265f27d9c6", func := "sheetpile/sheetpilelaw16.VolumeLost", spec := "volumeLost", inPlace := ["internal/abi.NoEscape", "internal/bytealg.MakeNoZero", "internal/bytealg.IndexByteString", "internal/bytealg.IndexString"], unfollowed := true, recurses := true, named := ["unicode/utf8.first", "unicode/utf8.acceptRanges", "internal/bytealg.MaxLen"], apart := false, laid := [("unicode/utf8.acceptRanges", laid_unicode_utf8_acceptRanges), ("unicode/utf8.first", laid_unicode_utf8_first)], narrowed := true }
def VolumeLostUptoSaid : Prop := volumeLostUptoRow.holds Tryz.pinned (OpenSpec.upto volumeLostSpec)

/-- 'sheetpilelaw16.VolumeTwice', WHERE WHAT IT READS IS OF BULK AT MOST 1048576: true; the input reads as it did. -/
def volumeTwiceUptoRow : OpenClaim := { program := "ytjcnihmbpakipaagreatdoor", sum := "afd7c8f87c79c5bef4f1c8a6bbe00f9db95d392da2ee280c82189a265f27d9c6", func := "sheetpile/sheetpilelaw16.VolumeTwice", spec := "volumeTwice", inPlace := ["internal/abi.NoEscape", "internal/bytealg.MakeNoZero", "internal/bytealg.IndexByteString", "internal/bytealg.IndexString"], unfollowed := true, recurses := true, named := ["unicode/utf8.first", "unicode/utf8.acceptRanges", "internal/bytealg.MaxLen"], apart := false, laid := [("unicode/utf8.acceptRanges", laid_unicode_utf8_acceptRanges), ("unicode/utf8.first", laid_unicode_utf8_first)], narrowed := true }
def VolumeTwiceUptoSaid : Prop := volumeTwiceUptoRow.holds Tryz.pinned (OpenSpec.upto volumeTwiceSpec)

/-- 'sheetpilelaw16.VolumeNil', WHERE WHAT IT READS IS OF BULK AT MOST 1048576: true; the input reads as it did. -/
def volumeNilUptoRow : OpenClaim := { program := "ytjcnihmbpakipaagreatdoor", sum := "afd7c8f87c79c5bef4f1c8a6bbe00f9db95d392da2ee280c82189a265f27d9c6", func := "sheetpile/sheetpilelaw16.VolumeNil", spec := "volumeNil", inPlace := ["internal/abi.NoEscape", "internal/bytealg.MakeNoZero", "internal/bytealg.IndexByteString", "internal/bytealg.IndexString"], unfollowed := true, recurses := true, named := ["unicode/utf8.first", "unicode/utf8.acceptRanges", "internal/bytealg.MaxLen"], apart := false, laid := [("unicode/utf8.acceptRanges", laid_unicode_utf8_acceptRanges), ("unicode/utf8.first", laid_unicode_utf8_first)], narrowed := true }
def VolumeNilUptoSaid : Prop := volumeNilUptoRow.holds Tryz.pinned (OpenSpec.upto volumeNilSpec)

/-- 'sheetpilelaw16.VolumeScripts', WHERE WHAT IT READS IS OF BULK AT MOST 1048576: true; the input reads as it did. -/
def volumeScriptsUptoRow : OpenClaim := { program := "ytjcnihmbpakipaagreatdoor", sum := "afd7c8f87c79c5bef4f1c8a6bbe00f9db95d392da2ee280c82189a265f27d9c6", func := "sheetpile/sheetpilelaw16.VolumeScripts", spec := "volumeScripts", inPlace := ["internal/abi.NoEscape", "internal/bytealg.MakeNoZero", "internal/bytealg.IndexByteString", "internal/bytealg.IndexString"], unfollowed := true, recurses := true, named := ["unicode/utf8.first", "unicode/utf8.acceptRanges", "internal/bytealg.MaxLen"], apart := false, laid := [("unicode/utf8.acceptRanges", laid_unicode_utf8_acceptRanges), ("unicode/utf8.first", laid_unicode_utf8_first)], narrowed := true }
def VolumeScriptsUptoSaid : Prop := volumeScriptsUptoRow.holds Tryz.pinned (OpenSpec.upto volumeScriptsSpec)

/-- 'sheetpilelaw16.VolumeCrash', WHERE WHAT IT READS IS OF BULK AT MOST 1048576: true; the input reads as it did. -/
def volumeCrashUptoRow : OpenClaim := { program := "ytjcnihmbpakipaagreatdoor", sum := "afd7c8f87c79c5bef4f1c8a6bbe00f9db95d392da2ee280c82189a265f27d9c6", func := "sheetpile/sheetpilelaw16.VolumeCrash", spec := "volumeCrash", inPlace := ["internal/abi.NoEscape", "internal/bytealg.MakeNoZero", "internal/bytealg.IndexByteString", "internal/bytealg.IndexString"], unfollowed := true, recurses := true, named := ["unicode/utf8.first", "unicode/utf8.acceptRanges", "internal/bytealg.MaxLen"], apart := false, laid := [("unicode/utf8.acceptRanges", laid_unicode_utf8_acceptRanges), ("unicode/utf8.first", laid_unicode_utf8_first)], narrowed := true }
def VolumeCrashUptoSaid : Prop := volumeCrashUptoRow.holds Tryz.pinned (OpenSpec.upto volumeCrashSpec)

end Rows
end Go.Proofs.YtjcnihmbpakipaaGreatDoor
