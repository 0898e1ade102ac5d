/-
  NARROWER THAN 'FOR EVERY INPUT', by the rows' own cells (each row's printed sentence says how): ScrubWhole: laid · ScrubCounts: laid · ScrubMends: laid · ScrubLoses: laid · RebuildStands: laid · RebuildSteps: laid · RebuildNil: laid · RebuildWrites: laid.
  DERIVED. THE GIVEN ROWS OF THIS SEAT. 8 by the template 'for every input the law returns true; each argument reads behind the call as it read before'; 0 by the template 'total and deterministic' (their statements: YtngbipjclpncoaaGreatDoorTotals.lean).
  GIVEN WITH THE SEED: the statements are not yours to turn. If you find one false, say at which input.
  Laid BY PROGRAM, IN A SANDBOX (cutbox-rows.mjs): the forced cells as the released guide's own fill.sh prints them over the translation ae1cfbd979085be7… (all of the seat's roots in one cut). By AI agents, Wed Nov 11 2026. No macro, syntax, notation, axiom, sorry.
-/
import Derived.Test.YtngbipjclpncoaaGreatDoorChecked
import GoSem.PinnedTables
import GoSem.Claim
import GoSem.ClaimJoined
import GoSem.ClaimMapViews
import Derived.JoinedTies
import Derived.KernelRfl
namespace Go.Proofs.YtngbipjclpncoaaGreatDoor
/- THE CELL 'sum', in the pinned program and in every row, IS THE sha256 OF THE DUMP (.gsa) THAT YtngbipjclpncoaaGreatDoorProg.lean LOADS. Nothing in Lean hashes anything: it is a label: what it is worth is what the hold of that sum in a sandbox is worth. -/
noncomputable def Tryz.pinned : Pinned := { name := "ytngbipjclpncoaagreatdoor", sum := "ae1cfbd979085be7e25cddf857262523bf3e2a45d9a12ace2c1bf8fbffcadb59", checked := Tryz.checked }
namespace Rows
def none {H : Type} : Left H := { results := [], args := [] }

/- WHAT THE LISTED PACKAGE-LEVEL VARIABLES READ AS WHEN THE CALL BEGINS. Each datum BY PROGRAM (the guide's laid-datum.mjs) off the statement by which the dump's own 'gosem.cut.vars' lays the variable. In a bare row this is a premise. The card (YtngbipjclpncoaaGreatDoorCards.lean) ties it to the program's text. -/
def laid_unicode_utf8_acceptRanges {H : Type} : DataW H := .agg [.agg [.lit (.int .u8 128), .lit (.int .u8 191)], .agg [.lit (.int .u8 160), .lit (.int .u8 191)], .agg [.lit (.int .u8 128), .lit (.int .u8 159)], .agg [.lit (.int .u8 144), .lit (.int .u8 191)], .agg [.lit (.int .u8 128), .lit (.int .u8 143)], .agg [.lit (.int .u8 0), .lit (.int .u8 0)], .agg [.lit (.int .u8 0), .lit (.int .u8 0)], .agg [.lit (.int .u8 0), .lit (.int .u8 0)], .agg [.lit (.int .u8 0), .lit (.int .u8 0)], .agg [.lit (.int .u8 0), .lit (.int .u8 0)], .agg [.lit (.int .u8 0), .lit (.int .u8 0)], .agg [.lit (.int .u8 0), .lit (.int .u8 0)], .agg [.lit (.int .u8 0), .lit (.int .u8 0)], .agg [.lit (.int .u8 0), .lit (.int .u8 0)], .agg [.lit (.int .u8 0), .lit (.int .u8 0)], .agg [.lit (.int .u8 0), .lit (.int .u8 0)]]
/-- One of Go's own tables, pinned by name: the form's constant. -/
def laid_unicode_utf8_first : DataW Unit := Go.Pinned.utf8First

/-- 'sheetpilelaw17.ScrubWhole': WHATEVER THE INPUT: true; the input reads as it did. -/
def scrubWholeSpec : ChangeSpec := { name := "scrubWhole", fn := fun _ => fun
  | [d] => { results := [.lit (.bool true)], args := [d] }
  | _ => none }
def scrubWholeRow : OpenClaim := { program := "ytngbipjclpncoaagreatdoor", sum := "ae1cfbd979085be7e25cddf857262523bf3e2a45d9a12ace2c1bf8fbffcadb59", func := "sheetpile/sheetpilelaw17.ScrubWhole", spec := "scrubWhole", inPlace := ["internal/abi.NoEscape", "internal/bytealg.MakeNoZero", "internal/bytealg.IndexByteString", "internal/bytealg.IndexString"], unfollowed := true, recurses := true, named := ["unicode/utf8.first", "unicode/utf8.acceptRanges", "internal/bytealg.MaxLen"], apart := false, laid := [("unicode/utf8.acceptRanges", laid_unicode_utf8_acceptRanges), ("unicode/utf8.first", laid_unicode_utf8_first)] }
def ScrubWholeSaid : Prop := scrubWholeRow.holds Tryz.pinned (OpenSpec.ofChange scrubWholeSpec)

/-- ITS FALSE NEIGHBOUR: 'it returns false'. Refute it at one input. -/
def scrubWholeWrong : ChangeSpec := { name := "scrubWhole", fn := fun _ => fun
  | [d] => { results := [.lit (.bool false)], args := [d] }
  | _ => none }
def ScrubWholeWrongFalsely : Prop := scrubWholeRow.holds Tryz.pinned (OpenSpec.ofChange scrubWholeWrong)

/-- 'sheetpilelaw17.ScrubCounts': WHATEVER THE INPUT: true; the input reads as it did. -/
def scrubCountsSpec : ChangeSpec := { name := "scrubCounts", fn := fun _ => fun
  | [d1, d2, d3] => { results := [.lit (.bool true)], args := [d1, d2, d3] }
  | _ => none }
def scrubCountsRow : OpenClaim := { program := "ytngbipjclpncoaagreatdoor", sum := "ae1cfbd979085be7e25cddf857262523bf3e2a45d9a12ace2c1bf8fbffcadb59", func := "sheetpile/sheetpilelaw17.ScrubCounts", spec := "scrubCounts", inPlace := ["internal/abi.NoEscape", "internal/bytealg.MakeNoZero", "internal/bytealg.IndexByteString", "internal/bytealg.IndexString"], unfollowed := true, recurses := true, named := ["unicode/utf8.first", "unicode/utf8.acceptRanges", "internal/bytealg.MaxLen"], apart := false, laid := [("unicode/utf8.acceptRanges", laid_unicode_utf8_acceptRanges), ("unicode/utf8.first", laid_unicode_utf8_first)] }
def ScrubCountsSaid : Prop := scrubCountsRow.holds Tryz.pinned (OpenSpec.ofChange scrubCountsSpec)

/-- ITS FALSE NEIGHBOUR: 'it returns false'. Refute it at one input. -/
def scrubCountsWrong : ChangeSpec := { name := "scrubCounts", fn := fun _ => fun
  | [d1, d2, d3] => { results := [.lit (.bool false)], args := [d1, d2, d3] }
  | _ => none }
def ScrubCountsWrongFalsely : Prop := scrubCountsRow.holds Tryz.pinned (OpenSpec.ofChange scrubCountsWrong)

/-- 'sheetpilelaw17.ScrubMends': WHATEVER THE INPUT: true; the input reads as it did. -/
def scrubMendsSpec : ChangeSpec := { name := "scrubMends", fn := fun _ => fun
  | [d1, d2, d3] => { results := [.lit (.bool true)], args := [d1, d2, d3] }
  | _ => none }
def scrubMendsRow : OpenClaim := { program := "ytngbipjclpncoaagreatdoor", sum := "ae1cfbd979085be7e25cddf857262523bf3e2a45d9a12ace2c1bf8fbffcadb59", func := "sheetpile/sheetpilelaw17.ScrubMends", spec := "scrubMends", inPlace := ["internal/abi.NoEscape", "internal/bytealg.MakeNoZero", "internal/bytealg.IndexByteString", "internal/bytealg.IndexString"], unfollowed := true, recurses := true, named := ["unicode/utf8.first", "unicode/utf8.acceptRanges", "internal/bytealg.MaxLen"], apart := false, laid := [("unicode/utf8.acceptRanges", laid_unicode_utf8_acceptRanges), ("unicode/utf8.first", laid_unicode_utf8_first)] }
def ScrubMendsSaid : Prop := scrubMendsRow.holds Tryz.pinned (OpenSpec.ofChange scrubMendsSpec)

/-- ITS FALSE NEIGHBOUR: 'it returns false'. Refute it at one input. -/
def scrubMendsWrong : ChangeSpec := { name := "scrubMends", fn := fun _ => fun
  | [d1, d2, d3] => { results := [.lit (.bool false)], args := [d1, d2, d3] }
  | _ => none }
def ScrubMendsWrongFalsely : Prop := scrubMendsRow.holds Tryz.pinned (OpenSpec.ofChange scrubMendsWrong)

/-- 'sheetpilelaw17.ScrubLoses': WHATEVER THE INPUT: true; the input reads as it did. -/
def scrubLosesSpec : ChangeSpec := { name := "scrubLoses", fn := fun _ => fun
  | [d] => { results := [.lit (.bool true)], args := [d] }
  | _ => none }
def scrubLosesRow : OpenClaim := { program := "ytngbipjclpncoaagreatdoor", sum := "ae1cfbd979085be7e25cddf857262523bf3e2a45d9a12ace2c1bf8fbffcadb59", func := "sheetpile/sheetpilelaw17.ScrubLoses", spec := "scrubLoses", inPlace := ["internal/abi.NoEscape", "internal/bytealg.MakeNoZero", "internal/bytealg.IndexByteString", "internal/bytealg.IndexString"], unfollowed := true, recurses := true, named := ["unicode/utf8.first", "unicode/utf8.acceptRanges", "internal/bytealg.MaxLen"], apart := false, laid := [("unicode/utf8.acceptRanges", laid_unicode_utf8_acceptRanges), ("unicode/utf8.first", laid_unicode_utf8_first)] }
def ScrubLosesSaid : Prop := scrubLosesRow.holds Tryz.pinned (OpenSpec.ofChange scrubLosesSpec)

/-- ITS FALSE NEIGHBOUR: 'it returns false'. Refute it at one input. -/
def scrubLosesWrong : ChangeSpec := { name := "scrubLoses", fn := fun _ => fun
  | [d] => { results := [.lit (.bool false)], args := [d] }
  | _ => none }
def ScrubLosesWrongFalsely : Prop := scrubLosesRow.holds Tryz.pinned (OpenSpec.ofChange scrubLosesWrong)

/-- 'sheetpilelaw18.RebuildStands': WHATEVER THE INPUT: true; the input reads as it did. -/
def rebuildStandsSpec : ChangeSpec := { name := "rebuildStands", fn := fun _ => fun
  | [d1, d2] => { results := [.lit (.bool true)], args := [d1, d2] }
  | _ => none }
def rebuildStandsRow : OpenClaim := { program := "ytngbipjclpncoaagreatdoor", sum := "ae1cfbd979085be7e25cddf857262523bf3e2a45d9a12ace2c1bf8fbffcadb59", func := "sheetpile/sheetpilelaw18.RebuildStands", spec := "rebuildStands", inPlace := ["internal/abi.NoEscape", "internal/bytealg.MakeNoZero", "internal/bytealg.IndexByteString", "internal/bytealg.IndexString"], unfollowed := true, recurses := true, named := ["unicode/utf8.first", "unicode/utf8.acceptRanges", "internal/bytealg.MaxLen"], apart := false, laid := [("unicode/utf8.acceptRanges", laid_unicode_utf8_acceptRanges), ("unicode/utf8.first", laid_unicode_utf8_first)] }
def RebuildStandsSaid : Prop := rebuildStandsRow.holds Tryz.pinned (OpenSpec.ofChange rebuildStandsSpec)

/-- ITS FALSE NEIGHBOUR: 'it returns false'. Refute it at one input. -/
def rebuildStandsWrong : ChangeSpec := { name := "rebuildStands", fn := fun _ => fun
  | [d1, d2] => { results := [.lit (.bool false)], args := [d1, d2] }
  | _ => none }
def RebuildStandsWrongFalsely : Prop := rebuildStandsRow.holds Tryz.pinned (OpenSpec.ofChange rebuildStandsWrong)

/-- 'sheetpilelaw18.RebuildSteps': WHATEVER THE INPUT: true; the input reads as it did. -/
def rebuildStepsSpec : ChangeSpec := { name := "rebuildSteps", fn := fun _ => fun
  | [d] => { results := [.lit (.bool true)], args := [d] }
  | _ => none }
def rebuildStepsRow : OpenClaim := { program := "ytngbipjclpncoaagreatdoor", sum := "ae1cfbd979085be7e25cddf857262523bf3e2a45d9a12ace2c1bf8fbffcadb59", func := "sheetpile/sheetpilelaw18.RebuildSteps", spec := "rebuildSteps", inPlace := ["internal/abi.NoEscape", "internal/bytealg.MakeNoZero", "internal/bytealg.IndexByteString", "internal/bytealg.IndexString"], unfollowed := true, recurses := true, named := ["unicode/utf8.first", "unicode/utf8.acceptRanges", "internal/bytealg.MaxLen"], apart := false, laid := [("unicode/utf8.acceptRanges", laid_unicode_utf8_acceptRanges), ("unicode/utf8.first", laid_unicode_utf8_first)] }
def RebuildStepsSaid : Prop := rebuildStepsRow.holds Tryz.pinned (OpenSpec.ofChange rebuildStepsSpec)

/-- ITS FALSE NEIGHBOUR: 'it returns false'. Refute it at one input. -/
def rebuildStepsWrong : ChangeSpec := { name := "rebuildSteps", fn := fun _ => fun
  | [d] => { results := [.lit (.bool false)], args := [d] }
  | _ => none }
def RebuildStepsWrongFalsely : Prop := rebuildStepsRow.holds Tryz.pinned (OpenSpec.ofChange rebuildStepsWrong)

/-- 'sheetpilelaw18.RebuildNil': WHATEVER THE INPUT: true; the input reads as it did. -/
def rebuildNilSpec : ChangeSpec := { name := "rebuildNil", fn := fun _ => fun
  | [d] => { results := [.lit (.bool true)], args := [d] }
  | _ => none }
def rebuildNilRow : OpenClaim := { program := "ytngbipjclpncoaagreatdoor", sum := "ae1cfbd979085be7e25cddf857262523bf3e2a45d9a12ace2c1bf8fbffcadb59", func := "sheetpile/sheetpilelaw18.RebuildNil", spec := "rebuildNil", inPlace := ["internal/abi.NoEscape", "internal/bytealg.MakeNoZero", "internal/bytealg.IndexByteString", "internal/bytealg.IndexString"], unfollowed := true, recurses := true, named := ["unicode/utf8.first", "unicode/utf8.acceptRanges", "internal/bytealg.MaxLen"], apart := false, laid := [("unicode/utf8.acceptRanges", laid_unicode_utf8_acceptRanges), ("unicode/utf8.first", laid_unicode_utf8_first)] }
def RebuildNilSaid : Prop := rebuildNilRow.holds Tryz.pinned (OpenSpec.ofChange rebuildNilSpec)

/-- ITS FALSE NEIGHBOUR: 'it returns false'. Refute it at one input. -/
def rebuildNilWrong : ChangeSpec := { name := "rebuildNil", fn := fun _ => fun
  | [d] => { results := [.lit (.bool false)], args := [d] }
  | _ => none }
def RebuildNilWrongFalsely : Prop := rebuildNilRow.holds Tryz.pinned (OpenSpec.ofChange rebuildNilWrong)

/-- 'sheetpilelaw18.RebuildWrites': WHATEVER THE INPUT: true; the input reads as it did. -/
def rebuildWritesSpec : ChangeSpec := { name := "rebuildWrites", fn := fun _ => fun
  | [d] => { results := [.lit (.bool true)], args := [d] }
  | _ => none }
def rebuildWritesRow : OpenClaim := { program := "ytngbipjclpncoaagreatdoor", sum := "ae1cfbd979085be7e25cddf857262523bf3e2a45d9a12ace2c1bf8fbffcadb59", func := "sheetpile/sheetpilelaw18.RebuildWrites", spec := "rebuildWrites", inPlace := ["internal/abi.NoEscape", "internal/bytealg.MakeNoZero", "internal/bytealg.IndexByteString", "internal/bytealg.IndexString"], unfollowed := true, recurses := true, named := ["unicode/utf8.first", "unicode/utf8.acceptRanges", "internal/bytealg.MaxLen"], apart := false, laid := [("unicode/utf8.acceptRanges", laid_unicode_utf8_acceptRanges), ("unicode/utf8.first", laid_unicode_utf8_first)] }
def RebuildWritesSaid : Prop := rebuildWritesRow.holds Tryz.pinned (OpenSpec.ofChange rebuildWritesSpec)

/-- ITS FALSE NEIGHBOUR: 'it returns false'. Refute it at one input. -/
def rebuildWritesWrong : ChangeSpec := { name := "rebuildWrites", fn := fun _ => fun
  | [d] => { results := [.lit (.bool false)], args := [d] }
  | _ => none }
def RebuildWritesWrongFalsely : Prop := rebuildWritesRow.holds Tryz.pinned (OpenSpec.ofChange rebuildWritesWrong)

/- THE SECOND FORM. 'bulk': how many values and letters a reading holds, each counted each time it is reached (what is shared counts as often as it is met; a slice's spare places count too). A statement '..UptoSaid' is the law's where the arguments, and the package variables that the reading takes, are together of bulk at most 1048576: NARROWER than '..Said'. Prove '..Said' where nothing that the law and all that it calls make is longer than what came in: it says more and counts as full. Else prove '..UptoSaid'. A law counts once. -/
mutual
def uptoBulk {H : Type} : DataW H → Nat
  | .lit (.string bytes) => bytes.length + 1
  | .lit _ => 1
  | .nil => 1
  | .ptr d => uptoBulk d + 1
  | .slice elems spare => uptoBulkAll elems + uptoBulkAll spare + 1
  | .agg parts => uptoBulkAll parts + 1
  | .iface _ d => uptoBulk d + 1
  | .map entries => uptoBulkEntries entries + 1
  | .held _ => 1
def uptoBulkAll {H : Type} : List (DataW H) → Nat
  | [] => 0
  | d :: r => uptoBulk d + uptoBulkAll r
def uptoBulkEntries {H : Type} : List (Lit × DataW H) → Nat
  | [] => 0
  | x :: r => uptoBulkEntry x + uptoBulkEntries r
def uptoBulkEntry {H : Type} : Lit × DataW H → Nat
  | (.string bytes, d) => bytes.length + uptoBulk d + 1
  | (_, d) => uptoBulk d + 1
 end
def uptoSmall : (H : Type) → List (DataW H) → Bool := fun _ ds => decide (uptoBulkAll ds ≤ 1048576)
def OpenSpec.upto (s : _root_.Go.ChangeSpec) : _root_.Go.OpenSpec := { _root_.Go.OpenSpec.ofChange s with cond := some uptoSmall }

/-- 'sheetpilelaw17.ScrubWhole', WHERE WHAT IT READS IS OF BULK AT MOST 1048576: true; the input reads as it did. -/
def scrubWholeUptoRow : OpenClaim := { program := "ytngbipjclpncoaagreatdoor", sum := "ae1cfbd979085be7e25cddf857262523bf3e2a45d9a12ace2c1bf8fbffcadb59", func := "sheetpile/sheetpilelaw17.ScrubWhole", spec := "scrubWhole", inPlace := ["internal/abi.NoEscape", "internal/bytealg.MakeNoZero", "internal/bytealg.IndexByteString", "internal/bytealg.IndexString"], unfollowed := true, recurses := true, named := ["unicode/utf8.first", "unicode/utf8.acceptRanges", "internal/bytealg.MaxLen"], apart := false, laid := [("unicode/utf8.acceptRanges", laid_unicode_utf8_acceptRanges), ("unicode/utf8.first", laid_unicode_utf8_first)], narrowed := true }
def ScrubWholeUptoSaid : Prop := scrubWholeUptoRow.holds Tryz.pinned (OpenSpec.upto scrubWholeSpec)

/-- 'sheetpilelaw17.ScrubCounts', WHERE WHAT IT READS IS OF BULK AT MOST 1048576: true; the input reads as it did. -/
def scrubCountsUptoRow : OpenClaim := { program := "ytngbipjclpncoaagreatdoor", sum := "ae1cfbd979085be7e25cddf857262523bf3e2a45d9a12ace2c1bf8fbffcadb59", func := "sheetpile/sheetpilelaw17.ScrubCounts", spec := "scrubCounts", inPlace := ["internal/abi.NoEscape", "internal/bytealg.MakeNoZero", "internal/bytealg.IndexByteString", "internal/bytealg.IndexString"], unfollowed := true, recurses := true, named := ["unicode/utf8.first", "unicode/utf8.acceptRanges", "internal/bytealg.MaxLen"], apart := false, laid := [("unicode/utf8.acceptRanges", laid_unicode_utf8_acceptRanges), ("unicode/utf8.first", laid_unicode_utf8_first)], narrowed := true }
def ScrubCountsUptoSaid : Prop := scrubCountsUptoRow.holds Tryz.pinned (OpenSpec.upto scrubCountsSpec)

/-- 'sheetpilelaw17.ScrubMends', WHERE WHAT IT READS IS OF BULK AT MOST 1048576: true; the input reads as it did. -/
def scrubMendsUptoRow : OpenClaim := { program := "ytngbipjclpncoaagreatdoor", sum := "ae1cfbd979085be7e25cddf857262523bf3e2a45d9a12ace2c1bf8fbffcadb59", func := "sheetpile/sheetpilelaw17.ScrubMends", spec := "scrubMends", inPlace := ["internal/abi.NoEscape", "internal/bytealg.MakeNoZero", "internal/bytealg.IndexByteString", "internal/bytealg.IndexString"], unfollowed := true, recurses := true, named := ["unicode/utf8.first", "unicode/utf8.acceptRanges", "internal/bytealg.MaxLen"], apart := false, laid := [("unicode/utf8.acceptRanges", laid_unicode_utf8_acceptRanges), ("unicode/utf8.first", laid_unicode_utf8_first)], narrowed := true }
def ScrubMendsUptoSaid : Prop := scrubMendsUptoRow.holds Tryz.pinned (OpenSpec.upto scrubMendsSpec)

/-- 'sheetpilelaw17.ScrubLoses', WHERE WHAT IT READS IS OF BULK AT MOST 1048576: true; the input reads as it did. -/
def scrubLosesUptoRow : OpenClaim := { program := "ytngbipjclpncoaagreatdoor", sum := "ae1cfbd979085be7e25cddf857262523bf3e2a45d9a12ace2c1bf8fbffcadb59", func := "sheetpile/sheetpilelaw17.ScrubLoses", spec := "scrubLoses", inPlace := ["internal/abi.NoEscape", "internal/bytealg.MakeNoZero", "internal/bytealg.IndexByteString", "internal/bytealg.IndexString"], unfollowed := true, recurses := true, named := ["unicode/utf8.first", "unicode/utf8.acceptRanges", "internal/bytealg.MaxLen"], apart := false, laid := [("unicode/utf8.acceptRanges", laid_unicode_utf8_acceptRanges), ("unicode/utf8.first", laid_unicode_utf8_first)], narrowed := true }
def ScrubLosesUptoSaid : Prop := scrubLosesUptoRow.holds Tryz.pinned (OpenSpec.upto scrubLosesSpec)

/-- 'sheetpilelaw18.RebuildStands', WHERE WHAT IT READS IS OF BULK AT MOST 1048576: true; the input reads as it did. -/
def rebuildStandsUptoRow : OpenClaim := { program := "ytngbipjclpncoaagreatdoor", sum := "ae1cfbd979085be7e25cddf857262523bf3e2a45d9a12ace2c1bf8fbffcadb59", func := "sheetpile/sheetpilelaw18.RebuildStands", spec := "rebuildStands", inPlace := ["internal/abi.NoEscape", "internal/bytealg.MakeNoZero", "internal/bytealg.IndexByteString", "internal/bytealg.IndexString"], unfollowed := true, recurses := true, named := ["unicode/utf8.first", "unicode/utf8.acceptRanges", "internal/bytealg.MaxLen"], apart := false, laid := [("unicode/utf8.acceptRanges", laid_unicode_utf8_acceptRanges), ("unicode/utf8.first", laid_unicode_utf8_first)], narrowed := true }
def RebuildStandsUptoSaid : Prop := rebuildStandsUptoRow.holds Tryz.pinned (OpenSpec.upto rebuildStandsSpec)

/-- 'sheetpilelaw18.RebuildSteps', WHERE WHAT IT READS IS OF BULK AT MOST 1048576: true; the input reads as it did. -/
def rebuildStepsUptoRow : OpenClaim := { program := "ytngbipjclpncoaagreatdoor", sum := "ae1cfbd979085be7e25cddf857262523bf3e2a45d9a12ace2c1bf8fbffcadb59", func := "sheetpile/sheetpilelaw18.RebuildSteps", spec := "rebuildSteps", inPlace := ["internal/abi.NoEscape", "internal/bytealg.MakeNoZero", "internal/bytealg.IndexByteString", "internal/bytealg.IndexString"], unfollowed := true, recurses := true, named := ["unicode/utf8.first", "unicode/utf8.acceptRanges", "internal/bytealg.MaxLen"], apart := false, laid := [("unicode/utf8.acceptRanges", laid_unicode_utf8_acceptRanges), ("unicode/utf8.first", laid_unicode_utf8_first)], narrowed := true }
def RebuildStepsUptoSaid : Prop := rebuildStepsUptoRow.holds Tryz.pinned (OpenSpec.upto rebuildStepsSpec)

/-- 'sheetpilelaw18.RebuildNil', WHERE WHAT IT READS IS OF BULK AT MOST 1048576: true; the input reads as it did. -/
def rebuildNilUptoRow : OpenClaim := { program := "ytngbipjclpncoaagreatdoor", sum := "ae1cfbd979085be7e25cddf857262523bf3e2a45d9a12ace2c1bf8fbffcadb59", func := "sheetpile/sheetpilelaw18.RebuildNil", spec := "rebuildNil", inPlace := ["internal/abi.NoEscape", "internal/bytealg.MakeNoZero", "internal/bytealg.IndexByteString", "internal/bytealg.IndexString"], unfollowed := true, recurses := true, named := ["unicode/utf8.first", "unicode/utf8.acceptRanges", "internal/bytealg.MaxLen"], apart := false, laid := [("unicode/utf8.acceptRanges", laid_unicode_utf8_acceptRanges), ("unicode/utf8.first", laid_unicode_utf8_first)], narrowed := true }
def RebuildNilUptoSaid : Prop := rebuildNilUptoRow.holds Tryz.pinned (OpenSpec.upto rebuildNilSpec)

/-- 'sheetpilelaw18.RebuildWrites', WHERE WHAT IT READS IS OF BULK AT MOST 1048576: true; the input reads as it did. -/
def rebuildWritesUptoRow : OpenClaim := { program := "ytngbipjclpncoaagreatdoor", sum := "ae1cfbd979085be7e25cddf857262523bf3e2a45d9a12ace2c1bf8fbffcadb59", func := "sheetpile/sheetpilelaw18.RebuildWrites", spec := "rebuildWrites", inPlace := ["internal/abi.NoEscape", "internal/bytealg.MakeNoZero", "internal/bytealg.IndexByteString", "internal/bytealg.IndexString"], unfollowed := true, recurses := true, named := ["unicode/utf8.first", "unicode/utf8.acceptRanges", "internal/bytealg.MaxLen"], apart := false, laid := [("unicode/utf8.acceptRanges", laid_unicode_utf8_acceptRanges), ("unicode/utf8.first", laid_unicode_utf8_first)], narrowed := true }
def RebuildWritesUptoSaid : Prop := rebuildWritesUptoRow.holds Tryz.pinned (OpenSpec.upto rebuildWritesSpec)

end Rows
end Go.Proofs.YtngbipjclpncoaaGreatDoor
