/-
  NARROWER THAN 'FOR EVERY INPUT', by the rows' own cells (each row's printed sentence says how): StripeSplits: laid · StripeJoins: laid · StripeBack: laid · StripeSizes: laid · StripeApart: laid.
  DERIVED. THE GIVEN ROWS OF THIS SEAT. 5 by the template 'for every input the law returns true; each argument reads behind the call as it read before'; 0 by the template 'total and deterministic' (their statements: YtgcfmodgabeocaaDoorTotals.lean).
  GIVEN WITH THE SEED: the statements are not yours to turn. If you find one false, say at which input.
  Laid BY PROGRAM, IN A SANDBOX (cutbox-rows.mjs): the forced cells as the released guide's own fill.sh prints them over the translation 287918111ee86701… (all of the seat's roots in one cut). By AI agents, Wed Nov 11 2026. No macro, syntax, notation, axiom, sorry.
-/
import Derived.Test.YtgcfmodgabeocaaDoorChecked
import GoSem.PinnedTables
import GoSem.Claim
import GoSem.ClaimJoined
import GoSem.ClaimMapViews
import Derived.JoinedTies
import Derived.KernelRfl
namespace Go.Proofs.YtgcfmodgabeocaaDoor
/- THE CELL 'sum', in the pinned program and in every row, IS THE sha256 OF THE DUMP (.gsa) THAT YtgcfmodgabeocaaDoorProg.lean LOADS. Nothing in Lean hashes anything: it is a label: what it is worth is what the hold of that sum in a sandbox is worth. -/
noncomputable def Tryd.pinned : Pinned := { name := "ytgcfmodgabeocaadoor", sum := "287918111ee86701d652612129f5bd3cbf0a236098b5654c878600808cba4e60", checked := Tryd.checked }
namespace Rows
def none {H : Type} : Left H := { results := [], args := [] }

/- WHAT THE LISTED PACKAGE-LEVEL VARIABLES READ AS WHEN THE CALL BEGINS. Each datum BY PROGRAM (the guide's laid-datum.mjs) off the statement by which the dump's own 'gosem.cut.vars' lays the variable. In a bare row this is a premise. The card (YtgcfmodgabeocaaDoorCards.lean) ties it to the program's text. -/
def laid_unicode_utf8_acceptRanges {H : Type} : DataW H := .agg [.agg [.lit (.int .u8 128), .lit (.int .u8 191)], .agg [.lit (.int .u8 160), .lit (.int .u8 191)], .agg [.lit (.int .u8 128), .lit (.int .u8 159)], .agg [.lit (.int .u8 144), .lit (.int .u8 191)], .agg [.lit (.int .u8 128), .lit (.int .u8 143)], .agg [.lit (.int .u8 0), .lit (.int .u8 0)], .agg [.lit (.int .u8 0), .lit (.int .u8 0)], .agg [.lit (.int .u8 0), .lit (.int .u8 0)], .agg [.lit (.int .u8 0), .lit (.int .u8 0)], .agg [.lit (.int .u8 0), .lit (.int .u8 0)], .agg [.lit (.int .u8 0), .lit (.int .u8 0)], .agg [.lit (.int .u8 0), .lit (.int .u8 0)], .agg [.lit (.int .u8 0), .lit (.int .u8 0)], .agg [.lit (.int .u8 0), .lit (.int .u8 0)], .agg [.lit (.int .u8 0), .lit (.int .u8 0)], .agg [.lit (.int .u8 0), .lit (.int .u8 0)]]
/-- One of Go's own tables, pinned by name: the form's constant. -/
def laid_unicode_utf8_first : DataW Unit := Go.Pinned.utf8First

/-- 'sheetpilelaw13.StripeSplits': WHATEVER THE INPUT: true; the input reads as it did. -/
def stripeSplitsSpec : ChangeSpec := { name := "stripeSplits", fn := fun _ => fun
  | [d1, d2] => { results := [.lit (.bool true)], args := [d1, d2] }
  | _ => none }
def stripeSplitsRow : OpenClaim := { program := "ytgcfmodgabeocaadoor", sum := "287918111ee86701d652612129f5bd3cbf0a236098b5654c878600808cba4e60", func := "sheetpile/sheetpilelaw13.StripeSplits", spec := "stripeSplits", inPlace := ["internal/abi.NoEscape", "internal/bytealg.MakeNoZero", "internal/bytealg.IndexByteString", "internal/bytealg.IndexString"], unfollowed := true, recurses := true, named := ["unicode/utf8.first", "unicode/utf8.acceptRanges", "internal/bytealg.MaxLen"], apart := false, laid := [("unicode/utf8.acceptRanges", laid_unicode_utf8_acceptRanges), ("unicode/utf8.first", laid_unicode_utf8_first)] }
def StripeSplitsSaid : Prop := stripeSplitsRow.holds Tryd.pinned (OpenSpec.ofChange stripeSplitsSpec)

/-- ITS FALSE NEIGHBOUR: 'it returns false'. Refute it at one input. -/
def stripeSplitsWrong : ChangeSpec := { name := "stripeSplits", fn := fun _ => fun
  | [d1, d2] => { results := [.lit (.bool false)], args := [d1, d2] }
  | _ => none }
def StripeSplitsWrongFalsely : Prop := stripeSplitsRow.holds Tryd.pinned (OpenSpec.ofChange stripeSplitsWrong)

/-- 'sheetpilelaw13.StripeJoins': WHATEVER THE INPUT: true; the input reads as it did. -/
def stripeJoinsSpec : ChangeSpec := { name := "stripeJoins", fn := fun _ => fun
  | [d1, d2, d3] => { results := [.lit (.bool true)], args := [d1, d2, d3] }
  | _ => none }
def stripeJoinsRow : OpenClaim := { program := "ytgcfmodgabeocaadoor", sum := "287918111ee86701d652612129f5bd3cbf0a236098b5654c878600808cba4e60", func := "sheetpile/sheetpilelaw13.StripeJoins", spec := "stripeJoins", inPlace := ["internal/abi.NoEscape", "internal/bytealg.MakeNoZero", "internal/bytealg.IndexByteString", "internal/bytealg.IndexString"], unfollowed := true, recurses := true, named := ["unicode/utf8.first", "unicode/utf8.acceptRanges", "internal/bytealg.MaxLen"], apart := false, laid := [("unicode/utf8.acceptRanges", laid_unicode_utf8_acceptRanges), ("unicode/utf8.first", laid_unicode_utf8_first)] }
def StripeJoinsSaid : Prop := stripeJoinsRow.holds Tryd.pinned (OpenSpec.ofChange stripeJoinsSpec)

/-- ITS FALSE NEIGHBOUR: 'it returns false'. Refute it at one input. -/
def stripeJoinsWrong : ChangeSpec := { name := "stripeJoins", fn := fun _ => fun
  | [d1, d2, d3] => { results := [.lit (.bool false)], args := [d1, d2, d3] }
  | _ => none }
def StripeJoinsWrongFalsely : Prop := stripeJoinsRow.holds Tryd.pinned (OpenSpec.ofChange stripeJoinsWrong)

/-- 'sheetpilelaw13.StripeBack': WHATEVER THE INPUT: true; the input reads as it did. -/
def stripeBackSpec : ChangeSpec := { name := "stripeBack", fn := fun _ => fun
  | [d1, d2, d3] => { results := [.lit (.bool true)], args := [d1, d2, d3] }
  | _ => none }
def stripeBackRow : OpenClaim := { program := "ytgcfmodgabeocaadoor", sum := "287918111ee86701d652612129f5bd3cbf0a236098b5654c878600808cba4e60", func := "sheetpile/sheetpilelaw13.StripeBack", spec := "stripeBack", inPlace := ["internal/abi.NoEscape", "internal/bytealg.MakeNoZero", "internal/bytealg.IndexByteString", "internal/bytealg.IndexString"], unfollowed := true, recurses := true, named := ["unicode/utf8.first", "unicode/utf8.acceptRanges", "internal/bytealg.MaxLen"], apart := false, laid := [("unicode/utf8.acceptRanges", laid_unicode_utf8_acceptRanges), ("unicode/utf8.first", laid_unicode_utf8_first)] }
def StripeBackSaid : Prop := stripeBackRow.holds Tryd.pinned (OpenSpec.ofChange stripeBackSpec)

/-- ITS FALSE NEIGHBOUR: 'it returns false'. Refute it at one input. -/
def stripeBackWrong : ChangeSpec := { name := "stripeBack", fn := fun _ => fun
  | [d1, d2, d3] => { results := [.lit (.bool false)], args := [d1, d2, d3] }
  | _ => none }
def StripeBackWrongFalsely : Prop := stripeBackRow.holds Tryd.pinned (OpenSpec.ofChange stripeBackWrong)

/-- 'sheetpilelaw13.StripeSizes': WHATEVER THE INPUT: true; the input reads as it did. -/
def stripeSizesSpec : ChangeSpec := { name := "stripeSizes", fn := fun _ => fun
  | [d1, d2] => { results := [.lit (.bool true)], args := [d1, d2] }
  | _ => none }
def stripeSizesRow : OpenClaim := { program := "ytgcfmodgabeocaadoor", sum := "287918111ee86701d652612129f5bd3cbf0a236098b5654c878600808cba4e60", func := "sheetpile/sheetpilelaw13.StripeSizes", spec := "stripeSizes", inPlace := ["internal/abi.NoEscape", "internal/bytealg.MakeNoZero", "internal/bytealg.IndexByteString", "internal/bytealg.IndexString"], unfollowed := true, recurses := true, named := ["unicode/utf8.first", "unicode/utf8.acceptRanges", "internal/bytealg.MaxLen"], apart := false, laid := [("unicode/utf8.acceptRanges", laid_unicode_utf8_acceptRanges), ("unicode/utf8.first", laid_unicode_utf8_first)] }
def StripeSizesSaid : Prop := stripeSizesRow.holds Tryd.pinned (OpenSpec.ofChange stripeSizesSpec)

/-- ITS FALSE NEIGHBOUR: 'it returns false'. Refute it at one input. -/
def stripeSizesWrong : ChangeSpec := { name := "stripeSizes", fn := fun _ => fun
  | [d1, d2] => { results := [.lit (.bool false)], args := [d1, d2] }
  | _ => none }
def StripeSizesWrongFalsely : Prop := stripeSizesRow.holds Tryd.pinned (OpenSpec.ofChange stripeSizesWrong)

/-- 'sheetpilelaw13.StripeApart': WHATEVER THE INPUT: true; the input reads as it did. -/
def stripeApartSpec : ChangeSpec := { name := "stripeApart", fn := fun _ => fun
  | [d1, d2, d3] => { results := [.lit (.bool true)], args := [d1, d2, d3] }
  | _ => none }
def stripeApartRow : OpenClaim := { program := "ytgcfmodgabeocaadoor", sum := "287918111ee86701d652612129f5bd3cbf0a236098b5654c878600808cba4e60", func := "sheetpile/sheetpilelaw13.StripeApart", spec := "stripeApart", inPlace := ["internal/abi.NoEscape", "internal/bytealg.MakeNoZero", "internal/bytealg.IndexByteString", "internal/bytealg.IndexString"], unfollowed := true, recurses := true, named := ["unicode/utf8.first", "unicode/utf8.acceptRanges", "internal/bytealg.MaxLen"], apart := false, laid := [("unicode/utf8.acceptRanges", laid_unicode_utf8_acceptRanges), ("unicode/utf8.first", laid_unicode_utf8_first)] }
def StripeApartSaid : Prop := stripeApartRow.holds Tryd.pinned (OpenSpec.ofChange stripeApartSpec)

/-- ITS FALSE NEIGHBOUR: 'it returns false'. Refute it at one input. -/
def stripeApartWrong : ChangeSpec := { name := "stripeApart", fn := fun _ => fun
  | [d1, d2, d3] => { results := [.lit (.bool false)], args := [d1, d2, d3] }
  | _ => none }
def StripeApartWrongFalsely : Prop := stripeApartRow.holds Tryd.pinned (OpenSpec.ofChange stripeApartWrong)

/- THE SECOND FORM. 'bulk': how many values and letters a reading holds, each counted each time it is reached (what is shared counts as often as it is met; a slice's spare places count too). A statement '..UptoSaid' is the law's where the arguments, and the package variables that the reading takes, are together of bulk at most 1048576: NARROWER than '..Said'. Prove '..Said' where nothing that the law and all that it calls make is longer than what came in: it says more and counts as full. Else prove '..UptoSaid'. A law counts once. -/
mutual
def uptoBulk {H : Type} : DataW H → Nat
  | .lit (.string bytes) => bytes.length + 1
  | .lit _ => 1
  | .nil => 1
  | .ptr d => uptoBulk d + 1
  | .slice elems spare => uptoBulkAll elems + uptoBulkAll spare + 1
  | .agg parts => uptoBulkAll parts + 1
  | .iface _ d => uptoBulk d + 1
  | .map entries => uptoBulkEntries entries + 1
  | .held _ => 1
def uptoBulkAll {H : Type} : List (DataW H) → Nat
  | [] => 0
  | d :: r => uptoBulk d + uptoBulkAll r
def uptoBulkEntries {H : Type} : List (Lit × DataW H) → Nat
  | [] => 0
  | x :: r => uptoBulkEntry x + uptoBulkEntries r
def uptoBulkEntry {H : Type} : Lit × DataW H → Nat
  | (.string bytes, d) => bytes.length + uptoBulk d + 1
  | (_, d) => uptoBulk d + 1
 end
def uptoSmall : (H : Type) → List (DataW H) → Bool := fun _ ds => decide (uptoBulkAll ds ≤ 1048576)
def OpenSpec.upto (s : _root_.Go.ChangeSpec) : _root_.Go.OpenSpec := { _root_.Go.OpenSpec.ofChange s with cond := some uptoSmall }

/-- 'sheetpilelaw13.StripeSplits', WHERE WHAT IT READS IS OF BULK AT MOST 1048576: true; the input reads as it did. -/
def stripeSplitsUptoRow : OpenClaim := { program := "ytgcfmodgabeocaadoor", sum := "287918111ee86701d652612129f5bd3cbf0a236098b5654c878600808cba4e60", func := "sheetpile/sheetpilelaw13.StripeSplits", spec := "stripeSplits", inPlace := ["internal/abi.NoEscape", "internal/bytealg.MakeNoZero", "internal/bytealg.IndexByteString", "internal/bytealg.IndexString"], unfollowed := true, recurses := true, named := ["unicode/utf8.first", "unicode/utf8.acceptRanges", "internal/bytealg.MaxLen"], apart := false, laid := [("unicode/utf8.acceptRanges", laid_unicode_utf8_acceptRanges), ("unicode/utf8.first", laid_unicode_utf8_first)], narrowed := true }
def StripeSplitsUptoSaid : Prop := stripeSplitsUptoRow.holds Tryd.pinned (OpenSpec.upto stripeSplitsSpec)

/-- 'sheetpilelaw13.StripeJoins', WHERE WHAT IT READS IS OF BULK AT MOST 1048576: true; the input reads as it did. -/
def stripeJoinsUptoRow : OpenClaim := { program := "ytgcfmodgabeocaadoor", sum := "287918111ee86701d652612129f5bd3cbf0a236098b5654c878600808cba4e60", func := "sheetpile/sheetpilelaw13.StripeJoins", spec := "stripeJoins", inPlace := ["internal/abi.NoEscape", "internal/bytealg.MakeNoZero", "internal/bytealg.IndexByteString", "internal/bytealg.IndexString"], unfollowed := true, recurses := true, named := ["unicode/utf8.first", "unicode/utf8.acceptRanges", "internal/bytealg.MaxLen"], apart := false, laid := [("unicode/utf8.acceptRanges", laid_unicode_utf8_acceptRanges), ("unicode/utf8.first", laid_unicode_utf8_first)], narrowed := true }
def StripeJoinsUptoSaid : Prop := stripeJoinsUptoRow.holds Tryd.pinned (OpenSpec.upto stripeJoinsSpec)

/-- 'sheetpilelaw13.StripeBack', WHERE WHAT IT READS IS OF BULK AT MOST 1048576: true; the input reads as it did. -/
def stripeBackUptoRow : OpenClaim := { program := "ytgcfmodgabeocaadoor", sum := "287918111ee86701d652612129f5bd3cbf0a236098b5654c878600808cba4e60", func := "sheetpile/sheetpilelaw13.StripeBack", spec := "stripeBack", inPlace := ["internal/abi.NoEscape", "internal/bytealg.MakeNoZero", "internal/bytealg.IndexByteString", "internal/bytealg.IndexString"], unfollowed := true, recurses := true, named := ["unicode/utf8.first", "unicode/utf8.acceptRanges", "internal/bytealg.MaxLen"], apart := false, laid := [("unicode/utf8.acceptRanges", laid_unicode_utf8_acceptRanges), ("unicode/utf8.first", laid_unicode_utf8_first)], narrowed := true }
def StripeBackUptoSaid : Prop := stripeBackUptoRow.holds Tryd.pinned (OpenSpec.upto stripeBackSpec)

/-- 'sheetpilelaw13.StripeSizes', WHERE WHAT IT READS IS OF BULK AT MOST 1048576: true; the input reads as it did. -/
def stripeSizesUptoRow : OpenClaim := { program := "ytgcfmodgabeocaadoor", sum := "287918111ee86701d652612129f5bd3cbf0a236098b5654c878600808cba4e60", func := "sheetpile/sheetpilelaw13.StripeSizes", spec := "stripeSizes", inPlace := ["internal/abi.NoEscape", "internal/bytealg.MakeNoZero", "internal/bytealg.IndexByteString", "internal/bytealg.IndexString"], unfollowed := true, recurses := true, named := ["unicode/utf8.first", "unicode/utf8.acceptRanges", "internal/bytealg.MaxLen"], apart := false, laid := [("unicode/utf8.acceptRanges", laid_unicode_utf8_acceptRanges), ("unicode/utf8.first", laid_unicode_utf8_first)], narrowed := true }
def StripeSizesUptoSaid : Prop := stripeSizesUptoRow.holds Tryd.pinned (OpenSpec.upto stripeSizesSpec)

/-- 'sheetpilelaw13.StripeApart', WHERE WHAT IT READS IS OF BULK AT MOST 1048576: true; the input reads as it did. -/
def stripeApartUptoRow : OpenClaim := { program := "ytgcfmodgabeocaadoor", sum := "287918111ee86701d652612129f5bd3cbf0a236098b5654c878600808cba4e60", func := "sheetpile/sheetpilelaw13.StripeApart", spec := "stripeApart", inPlace := ["internal/abi.NoEscape", "internal/bytealg.MakeNoZero", "internal/bytealg.IndexByteString", "internal/bytealg.IndexString"], unfollowed := true, recurses := true, named := ["unicode/utf8.first", "unicode/utf8.acceptRanges", "internal/bytealg.MaxLen"], apart := false, laid := [("unicode/utf8.acceptRanges", laid_unicode_utf8_acceptRanges), ("unicode/utf8.first", laid_unicode_utf8_first)], narrowed := true }
def StripeApartUptoSaid : Prop := stripeApartUptoRow.holds Tryd.pinned (OpenSpec.upto stripeApartSpec)

end Rows
end Go.Proofs.YtgcfmodgabeocaaDoor
