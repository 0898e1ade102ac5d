/-
  No cell of these rows narrows 'for every input' (looked for: loops, veiled, ifaces, maps, wideKeys, modest, calm, conditions, laid).
  DERIVED. THE GIVEN ROWS OF THIS SEAT. 19 by the template 'for every input the law returns true; each argument reads behind the call as it read before'; 0 by the template 'total and deterministic' (their statements: YtmpeghcilhcpjaaTotals.lean).
  GIVEN WITH THE SEED: the statements are not yours to turn. If you find one false, say at which input.
  Laid BY PROGRAM, IN A SANDBOX (cutbox-rows.mjs): the forced cells as the released guide's own fill.sh prints them over the translation 4697cae141887976… (all of the seat's roots in one cut). By AI agents, Wed Nov 11 2026. No macro, syntax, notation, axiom, sorry.
-/
import Derived.Test.YtmpeghcilhcpjaaChecked
import GoSem.Claim
import GoSem.ClaimJoined
import GoSem.ClaimMapViews
import Derived.JoinedTies
import Derived.KernelRfl
namespace Go.Proofs.Ytmpeghcilhcpjaa
/- THE CELL 'sum', in the pinned program and in every row, IS THE sha256 OF THE DUMP (.gsa) THAT YtmpeghcilhcpjaaProg.lean LOADS. Nothing in Lean hashes anything: it is a label: what it is worth is what the hold of that sum in a sandbox is worth. -/
noncomputable def Try.pinned : Pinned := { name := "ytmpeghcilhcpjaa", sum := "4697cae14188797696d7319e4ad49c64900ed62508e10e3c2d9a9fb705aa3967", checked := Try.checked }
namespace Rows
def none {H : Type} : Left H := { results := [], args := [] }

/-- 'sheetpilelaw04.GenMakes': WHATEVER THE INPUT: true; the input reads as it did. -/
def genMakesSpec : ChangeSpec := { name := "genMakes", fn := fun _ => fun
  | [d1, d2] => { results := [.lit (.bool true)], args := [d1, d2] }
  | _ => none }
def genMakesRow : OpenClaim := { program := "ytmpeghcilhcpjaa", sum := "4697cae14188797696d7319e4ad49c64900ed62508e10e3c2d9a9fb705aa3967", func := "sheetpile/sheetpilelaw04.GenMakes", spec := "genMakes", unfollowed := true, recurses := true, apart := false }
def GenMakesSaid : Prop := genMakesRow.holds Try.pinned (OpenSpec.ofChange genMakesSpec)

/-- ITS FALSE NEIGHBOUR: 'it returns false'. Refute it at one input. -/
def genMakesWrong : ChangeSpec := { name := "genMakes", fn := fun _ => fun
  | [d1, d2] => { results := [.lit (.bool false)], args := [d1, d2] }
  | _ => none }
def GenMakesWrongFalsely : Prop := genMakesRow.holds Try.pinned (OpenSpec.ofChange genMakesWrong)

/-- 'sheetpilelaw04.GenDecodes': WHATEVER THE INPUT: true; the input reads as it did. -/
def genDecodesSpec : ChangeSpec := { name := "genDecodes", fn := fun _ => fun
  | [d1, d2, d3] => { results := [.lit (.bool true)], args := [d1, d2, d3] }
  | _ => none }
def genDecodesRow : OpenClaim := { program := "ytmpeghcilhcpjaa", sum := "4697cae14188797696d7319e4ad49c64900ed62508e10e3c2d9a9fb705aa3967", func := "sheetpile/sheetpilelaw04.GenDecodes", spec := "genDecodes", unfollowed := true, recurses := true, apart := false }
def GenDecodesSaid : Prop := genDecodesRow.holds Try.pinned (OpenSpec.ofChange genDecodesSpec)

/-- ITS FALSE NEIGHBOUR: 'it returns false'. Refute it at one input. -/
def genDecodesWrong : ChangeSpec := { name := "genDecodes", fn := fun _ => fun
  | [d1, d2, d3] => { results := [.lit (.bool false)], args := [d1, d2, d3] }
  | _ => none }
def GenDecodesWrongFalsely : Prop := genDecodesRow.holds Try.pinned (OpenSpec.ofChange genDecodesWrong)

/-- 'sheetpilelaw04.GenMinors': WHATEVER THE INPUT: true; the input reads as it did. -/
def genMinorsSpec : ChangeSpec := { name := "genMinors", fn := fun _ => fun
  | [d1, d2, d3] => { results := [.lit (.bool true)], args := [d1, d2, d3] }
  | _ => none }
def genMinorsRow : OpenClaim := { program := "ytmpeghcilhcpjaa", sum := "4697cae14188797696d7319e4ad49c64900ed62508e10e3c2d9a9fb705aa3967", func := "sheetpile/sheetpilelaw04.GenMinors", spec := "genMinors", unfollowed := true, recurses := true, apart := false }
def GenMinorsSaid : Prop := genMinorsRow.holds Try.pinned (OpenSpec.ofChange genMinorsSpec)

/-- ITS FALSE NEIGHBOUR: 'it returns false'. Refute it at one input. -/
def genMinorsWrong : ChangeSpec := { name := "genMinors", fn := fun _ => fun
  | [d1, d2, d3] => { results := [.lit (.bool false)], args := [d1, d2, d3] }
  | _ => none }
def GenMinorsWrongFalsely : Prop := genMinorsRow.holds Try.pinned (OpenSpec.ofChange genMinorsWrong)

/-- 'sheetpilelaw04.GenMore': WHATEVER THE INPUT: true; the input reads as it did. -/
def genMoreSpec : ChangeSpec := { name := "genMore", fn := fun _ => fun
  | [d1, d2, d3] => { results := [.lit (.bool true)], args := [d1, d2, d3] }
  | _ => none }
def genMoreRow : OpenClaim := { program := "ytmpeghcilhcpjaa", sum := "4697cae14188797696d7319e4ad49c64900ed62508e10e3c2d9a9fb705aa3967", func := "sheetpile/sheetpilelaw04.GenMore", spec := "genMore", unfollowed := true, recurses := true, apart := false }
def GenMoreSaid : Prop := genMoreRow.holds Try.pinned (OpenSpec.ofChange genMoreSpec)

/-- ITS FALSE NEIGHBOUR: 'it returns false'. Refute it at one input. -/
def genMoreWrong : ChangeSpec := { name := "genMore", fn := fun _ => fun
  | [d1, d2, d3] => { results := [.lit (.bool false)], args := [d1, d2, d3] }
  | _ => none }
def GenMoreWrongFalsely : Prop := genMoreRow.holds Try.pinned (OpenSpec.ofChange genMoreWrong)

/-- 'sheetpilelaw04.GenData': WHATEVER THE INPUT: true; the input reads as it did. -/
def genDataSpec : ChangeSpec := { name := "genData", fn := fun _ => fun
  | [d1, d2, d3] => { results := [.lit (.bool true)], args := [d1, d2, d3] }
  | _ => none }
def genDataRow : OpenClaim := { program := "ytmpeghcilhcpjaa", sum := "4697cae14188797696d7319e4ad49c64900ed62508e10e3c2d9a9fb705aa3967", func := "sheetpile/sheetpilelaw04.GenData", spec := "genData", unfollowed := true, recurses := true, apart := false }
def GenDataSaid : Prop := genDataRow.holds Try.pinned (OpenSpec.ofChange genDataSpec)

/-- ITS FALSE NEIGHBOUR: 'it returns false'. Refute it at one input. -/
def genDataWrong : ChangeSpec := { name := "genData", fn := fun _ => fun
  | [d1, d2, d3] => { results := [.lit (.bool false)], args := [d1, d2, d3] }
  | _ => none }
def GenDataWrongFalsely : Prop := genDataRow.holds Try.pinned (OpenSpec.ofChange genDataWrong)

/-- 'sheetpilelaw04.GenFirst': WHATEVER THE INPUT: true; the input reads as it did. -/
def genFirstSpec : ChangeSpec := { name := "genFirst", fn := fun _ => fun
  | [d1, d2, d3] => { results := [.lit (.bool true)], args := [d1, d2, d3] }
  | _ => none }
def genFirstRow : OpenClaim := { program := "ytmpeghcilhcpjaa", sum := "4697cae14188797696d7319e4ad49c64900ed62508e10e3c2d9a9fb705aa3967", func := "sheetpile/sheetpilelaw04.GenFirst", spec := "genFirst", unfollowed := true, recurses := true, apart := false }
def GenFirstSaid : Prop := genFirstRow.holds Try.pinned (OpenSpec.ofChange genFirstSpec)

/-- ITS FALSE NEIGHBOUR: 'it returns false'. Refute it at one input. -/
def genFirstWrong : ChangeSpec := { name := "genFirst", fn := fun _ => fun
  | [d1, d2, d3] => { results := [.lit (.bool false)], args := [d1, d2, d3] }
  | _ => none }
def GenFirstWrongFalsely : Prop := genFirstRow.holds Try.pinned (OpenSpec.ofChange genFirstWrong)

/-- 'sheetpilelaw03.MatMuls': WHATEVER THE INPUT: true; the input reads as it did. -/
def matMulsSpec : ChangeSpec := { name := "matMuls", fn := fun _ => fun
  | [d1, d2, d3] => { results := [.lit (.bool true)], args := [d1, d2, d3] }
  | _ => none }
def matMulsRow : OpenClaim := { program := "ytmpeghcilhcpjaa", sum := "4697cae14188797696d7319e4ad49c64900ed62508e10e3c2d9a9fb705aa3967", func := "sheetpile/sheetpilelaw03.MatMuls", spec := "matMuls", apart := false }
def MatMulsSaid : Prop := matMulsRow.holds Try.pinned (OpenSpec.ofChange matMulsSpec)

/-- ITS FALSE NEIGHBOUR: 'it returns false'. Refute it at one input. -/
def matMulsWrong : ChangeSpec := { name := "matMuls", fn := fun _ => fun
  | [d1, d2, d3] => { results := [.lit (.bool false)], args := [d1, d2, d3] }
  | _ => none }
def MatMulsWrongFalsely : Prop := matMulsRow.holds Try.pinned (OpenSpec.ofChange matMulsWrong)

/-- 'sheetpilelaw03.MatInverts': WHATEVER THE INPUT: true; the input reads as it did. -/
def matInvertsSpec : ChangeSpec := { name := "matInverts", fn := fun _ => fun
  | [d1, d2] => { results := [.lit (.bool true)], args := [d1, d2] }
  | _ => none }
def matInvertsRow : OpenClaim := { program := "ytmpeghcilhcpjaa", sum := "4697cae14188797696d7319e4ad49c64900ed62508e10e3c2d9a9fb705aa3967", func := "sheetpile/sheetpilelaw03.MatInverts", spec := "matInverts", recurses := true, apart := false }
def MatInvertsSaid : Prop := matInvertsRow.holds Try.pinned (OpenSpec.ofChange matInvertsSpec)

/-- ITS FALSE NEIGHBOUR: 'it returns false'. Refute it at one input. -/
def matInvertsWrong : ChangeSpec := { name := "matInverts", fn := fun _ => fun
  | [d1, d2] => { results := [.lit (.bool false)], args := [d1, d2] }
  | _ => none }
def MatInvertsWrongFalsely : Prop := matInvertsRow.holds Try.pinned (OpenSpec.ofChange matInvertsWrong)

/-- 'sheetpilelaw03.MatBack': WHATEVER THE INPUT: true; the input reads as it did. -/
def matBackSpec : ChangeSpec := { name := "matBack", fn := fun _ => fun
  | [d] => { results := [.lit (.bool true)], args := [d] }
  | _ => none }
def matBackRow : OpenClaim := { program := "ytmpeghcilhcpjaa", sum := "4697cae14188797696d7319e4ad49c64900ed62508e10e3c2d9a9fb705aa3967", func := "sheetpile/sheetpilelaw03.MatBack", spec := "matBack", apart := false }
def MatBackSaid : Prop := matBackRow.holds Try.pinned (OpenSpec.ofChange matBackSpec)

/-- ITS FALSE NEIGHBOUR: 'it returns false'. Refute it at one input. -/
def matBackWrong : ChangeSpec := { name := "matBack", fn := fun _ => fun
  | [d] => { results := [.lit (.bool false)], args := [d] }
  | _ => none }
def MatBackWrongFalsely : Prop := matBackRow.holds Try.pinned (OpenSpec.ofChange matBackWrong)

/-- 'sheetpilelaw03.MatGroups': WHATEVER THE INPUT: true; the input reads as it did. -/
def matGroupsSpec : ChangeSpec := { name := "matGroups", fn := fun _ => fun
  | [d1, d2, d3] => { results := [.lit (.bool true)], args := [d1, d2, d3] }
  | _ => none }
def matGroupsRow : OpenClaim := { program := "ytmpeghcilhcpjaa", sum := "4697cae14188797696d7319e4ad49c64900ed62508e10e3c2d9a9fb705aa3967", func := "sheetpile/sheetpilelaw03.MatGroups", spec := "matGroups", apart := false }
def MatGroupsSaid : Prop := matGroupsRow.holds Try.pinned (OpenSpec.ofChange matGroupsSpec)

/-- ITS FALSE NEIGHBOUR: 'it returns false'. Refute it at one input. -/
def matGroupsWrong : ChangeSpec := { name := "matGroups", fn := fun _ => fun
  | [d1, d2, d3] => { results := [.lit (.bool false)], args := [d1, d2, d3] }
  | _ => none }
def MatGroupsWrongFalsely : Prop := matGroupsRow.holds Try.pinned (OpenSpec.ofChange matGroupsWrong)

/-- 'sheetpilelaw03.MatPicks': WHATEVER THE INPUT: true; the input reads as it did. -/
def matPicksSpec : ChangeSpec := { name := "matPicks", fn := fun _ => fun
  | [d1, d2] => { results := [.lit (.bool true)], args := [d1, d2] }
  | _ => none }
def matPicksRow : OpenClaim := { program := "ytmpeghcilhcpjaa", sum := "4697cae14188797696d7319e4ad49c64900ed62508e10e3c2d9a9fb705aa3967", func := "sheetpile/sheetpilelaw03.MatPicks", spec := "matPicks", apart := false }
def MatPicksSaid : Prop := matPicksRow.holds Try.pinned (OpenSpec.ofChange matPicksSpec)

/-- ITS FALSE NEIGHBOUR: 'it returns false'. Refute it at one input. -/
def matPicksWrong : ChangeSpec := { name := "matPicks", fn := fun _ => fun
  | [d1, d2] => { results := [.lit (.bool false)], args := [d1, d2] }
  | _ => none }
def MatPicksWrongFalsely : Prop := matPicksRow.holds Try.pinned (OpenSpec.ofChange matPicksWrong)

/-- 'sheetpilelaw03.MatOrder': WHATEVER THE INPUT: true; the input reads as it did. -/
def matOrderSpec : ChangeSpec := { name := "matOrder", fn := fun _ => fun
  | [d1, d2] => { results := [.lit (.bool true)], args := [d1, d2] }
  | _ => none }
def matOrderRow : OpenClaim := { program := "ytmpeghcilhcpjaa", sum := "4697cae14188797696d7319e4ad49c64900ed62508e10e3c2d9a9fb705aa3967", func := "sheetpile/sheetpilelaw03.MatOrder", spec := "matOrder", apart := false }
def MatOrderSaid : Prop := matOrderRow.holds Try.pinned (OpenSpec.ofChange matOrderSpec)

/-- ITS FALSE NEIGHBOUR: 'it returns false'. Refute it at one input. -/
def matOrderWrong : ChangeSpec := { name := "matOrder", fn := fun _ => fun
  | [d1, d2] => { results := [.lit (.bool false)], args := [d1, d2] }
  | _ => none }
def MatOrderWrongFalsely : Prop := matOrderRow.holds Try.pinned (OpenSpec.ofChange matOrderWrong)

/-- 'sheetpilelaw03.MatTwice': WHATEVER THE INPUT: true; the input reads as it did. -/
def matTwiceSpec : ChangeSpec := { name := "matTwice", fn := fun _ => fun
  | [d1, d2, d3] => { results := [.lit (.bool true)], args := [d1, d2, d3] }
  | _ => none }
def matTwiceRow : OpenClaim := { program := "ytmpeghcilhcpjaa", sum := "4697cae14188797696d7319e4ad49c64900ed62508e10e3c2d9a9fb705aa3967", func := "sheetpile/sheetpilelaw03.MatTwice", spec := "matTwice", apart := false }
def MatTwiceSaid : Prop := matTwiceRow.holds Try.pinned (OpenSpec.ofChange matTwiceSpec)

/-- ITS FALSE NEIGHBOUR: 'it returns false'. Refute it at one input. -/
def matTwiceWrong : ChangeSpec := { name := "matTwice", fn := fun _ => fun
  | [d1, d2, d3] => { results := [.lit (.bool false)], args := [d1, d2, d3] }
  | _ => none }
def MatTwiceWrongFalsely : Prop := matTwiceRow.holds Try.pinned (OpenSpec.ofChange matTwiceWrong)

/-- 'sheetpilelaw05.RsEncodes': WHATEVER THE INPUT: true; the input reads as it did. -/
def rsEncodesSpec : ChangeSpec := { name := "rsEncodes", fn := fun _ => fun
  | [d1, d2, d3] => { results := [.lit (.bool true)], args := [d1, d2, d3] }
  | _ => none }
def rsEncodesRow : OpenClaim := { program := "ytmpeghcilhcpjaa", sum := "4697cae14188797696d7319e4ad49c64900ed62508e10e3c2d9a9fb705aa3967", func := "sheetpile/sheetpilelaw05.RsEncodes", spec := "rsEncodes", unfollowed := true, recurses := true, apart := false }
def RsEncodesSaid : Prop := rsEncodesRow.holds Try.pinned (OpenSpec.ofChange rsEncodesSpec)

/-- ITS FALSE NEIGHBOUR: 'it returns false'. Refute it at one input. -/
def rsEncodesWrong : ChangeSpec := { name := "rsEncodes", fn := fun _ => fun
  | [d1, d2, d3] => { results := [.lit (.bool false)], args := [d1, d2, d3] }
  | _ => none }
def RsEncodesWrongFalsely : Prop := rsEncodesRow.holds Try.pinned (OpenSpec.ofChange rsEncodesWrong)

/-- 'sheetpilelaw05.RsDecodes': WHATEVER THE INPUT: true; the input reads as it did. -/
def rsDecodesSpec : ChangeSpec := { name := "rsDecodes", fn := fun _ => fun
  | [d1, d2, d3] => { results := [.lit (.bool true)], args := [d1, d2, d3] }
  | _ => none }
def rsDecodesRow : OpenClaim := { program := "ytmpeghcilhcpjaa", sum := "4697cae14188797696d7319e4ad49c64900ed62508e10e3c2d9a9fb705aa3967", func := "sheetpile/sheetpilelaw05.RsDecodes", spec := "rsDecodes", unfollowed := true, recurses := true, apart := false }
def RsDecodesSaid : Prop := rsDecodesRow.holds Try.pinned (OpenSpec.ofChange rsDecodesSpec)

/-- ITS FALSE NEIGHBOUR: 'it returns false'. Refute it at one input. -/
def rsDecodesWrong : ChangeSpec := { name := "rsDecodes", fn := fun _ => fun
  | [d1, d2, d3] => { results := [.lit (.bool false)], args := [d1, d2, d3] }
  | _ => none }
def RsDecodesWrongFalsely : Prop := rsDecodesRow.holds Try.pinned (OpenSpec.ofChange rsDecodesWrong)

/-- 'sheetpilelaw05.RsBack': WHATEVER THE INPUT: true; the input reads as it did. -/
def rsBackSpec : ChangeSpec := { name := "rsBack", fn := fun _ => fun
  | [d1, d2, d3] => { results := [.lit (.bool true)], args := [d1, d2, d3] }
  | _ => none }
def rsBackRow : OpenClaim := { program := "ytmpeghcilhcpjaa", sum := "4697cae14188797696d7319e4ad49c64900ed62508e10e3c2d9a9fb705aa3967", func := "sheetpile/sheetpilelaw05.RsBack", spec := "rsBack", unfollowed := true, recurses := true, apart := false }
def RsBackSaid : Prop := rsBackRow.holds Try.pinned (OpenSpec.ofChange rsBackSpec)

/-- ITS FALSE NEIGHBOUR: 'it returns false'. Refute it at one input. -/
def rsBackWrong : ChangeSpec := { name := "rsBack", fn := fun _ => fun
  | [d1, d2, d3] => { results := [.lit (.bool false)], args := [d1, d2, d3] }
  | _ => none }
def RsBackWrongFalsely : Prop := rsBackRow.holds Try.pinned (OpenSpec.ofChange rsBackWrong)

/-- 'sheetpilelaw05.RsDelta': WHATEVER THE INPUT: true; the input reads as it did. -/
def rsDeltaSpec : ChangeSpec := { name := "rsDelta", fn := fun _ => fun
  | [d] => { results := [.lit (.bool true)], args := [d] }
  | _ => none }
def rsDeltaRow : OpenClaim := { program := "ytmpeghcilhcpjaa", sum := "4697cae14188797696d7319e4ad49c64900ed62508e10e3c2d9a9fb705aa3967", func := "sheetpile/sheetpilelaw05.RsDelta", spec := "rsDelta", unfollowed := true, recurses := true, apart := false }
def RsDeltaSaid : Prop := rsDeltaRow.holds Try.pinned (OpenSpec.ofChange rsDeltaSpec)

/-- ITS FALSE NEIGHBOUR: 'it returns false'. Refute it at one input. -/
def rsDeltaWrong : ChangeSpec := { name := "rsDelta", fn := fun _ => fun
  | [d] => { results := [.lit (.bool false)], args := [d] }
  | _ => none }
def RsDeltaWrongFalsely : Prop := rsDeltaRow.holds Try.pinned (OpenSpec.ofChange rsDeltaWrong)

/-- 'sheetpilelaw05.RsSums': WHATEVER THE INPUT: true; the input reads as it did. -/
def rsSumsSpec : ChangeSpec := { name := "rsSums", fn := fun _ => fun
  | [d1, d2, d3] => { results := [.lit (.bool true)], args := [d1, d2, d3] }
  | _ => none }
def rsSumsRow : OpenClaim := { program := "ytmpeghcilhcpjaa", sum := "4697cae14188797696d7319e4ad49c64900ed62508e10e3c2d9a9fb705aa3967", func := "sheetpile/sheetpilelaw05.RsSums", spec := "rsSums", unfollowed := true, recurses := true, apart := false }
def RsSumsSaid : Prop := rsSumsRow.holds Try.pinned (OpenSpec.ofChange rsSumsSpec)

/-- ITS FALSE NEIGHBOUR: 'it returns false'. Refute it at one input. -/
def rsSumsWrong : ChangeSpec := { name := "rsSums", fn := fun _ => fun
  | [d1, d2, d3] => { results := [.lit (.bool false)], args := [d1, d2, d3] }
  | _ => none }
def RsSumsWrongFalsely : Prop := rsSumsRow.holds Try.pinned (OpenSpec.ofChange rsSumsWrong)

/-- 'sheetpilelaw05.RsChanged': WHATEVER THE INPUT: true; the input reads as it did. -/
def rsChangedSpec : ChangeSpec := { name := "rsChanged", fn := fun _ => fun
  | [d] => { results := [.lit (.bool true)], args := [d] }
  | _ => none }
def rsChangedRow : OpenClaim := { program := "ytmpeghcilhcpjaa", sum := "4697cae14188797696d7319e4ad49c64900ed62508e10e3c2d9a9fb705aa3967", func := "sheetpile/sheetpilelaw05.RsChanged", spec := "rsChanged", unfollowed := true, recurses := true, apart := false }
def RsChangedSaid : Prop := rsChangedRow.holds Try.pinned (OpenSpec.ofChange rsChangedSpec)

/-- ITS FALSE NEIGHBOUR: 'it returns false'. Refute it at one input. -/
def rsChangedWrong : ChangeSpec := { name := "rsChanged", fn := fun _ => fun
  | [d] => { results := [.lit (.bool false)], args := [d] }
  | _ => none }
def RsChangedWrongFalsely : Prop := rsChangedRow.holds Try.pinned (OpenSpec.ofChange rsChangedWrong)

/- THE SECOND FORM. 'bulk': how many values and letters a reading holds, each counted each time it is reached (what is shared counts as often as it is met; a slice's spare places count too). A statement '..UptoSaid' is the law's where the arguments, and the package variables that the reading takes, are together of bulk at most 1048576: NARROWER than '..Said'. Prove '..Said' where nothing that the law and all that it calls make is longer than what came in: it says more and counts as full. Else prove '..UptoSaid'. A law counts once. -/
mutual
def uptoBulk {H : Type} : DataW H → Nat
  | .lit (.string bytes) => bytes.length + 1
  | .lit _ => 1
  | .nil => 1
  | .ptr d => uptoBulk d + 1
  | .slice elems spare => uptoBulkAll elems + uptoBulkAll spare + 1
  | .agg parts => uptoBulkAll parts + 1
  | .iface _ d => uptoBulk d + 1
  | .map entries => uptoBulkEntries entries + 1
  | .held _ => 1
def uptoBulkAll {H : Type} : List (DataW H) → Nat
  | [] => 0
  | d :: r => uptoBulk d + uptoBulkAll r
def uptoBulkEntries {H : Type} : List (Lit × DataW H) → Nat
  | [] => 0
  | x :: r => uptoBulkEntry x + uptoBulkEntries r
def uptoBulkEntry {H : Type} : Lit × DataW H → Nat
  | (.string bytes, d) => bytes.length + uptoBulk d + 1
  | (_, d) => uptoBulk d + 1
 end
def uptoSmall : (H : Type) → List (DataW H) → Bool := fun _ ds => decide (uptoBulkAll ds ≤ 1048576)
def OpenSpec.upto (s : _root_.Go.ChangeSpec) : _root_.Go.OpenSpec := { _root_.Go.OpenSpec.ofChange s with cond := some uptoSmall }

/-- 'sheetpilelaw04.GenMakes', WHERE WHAT IT READS IS OF BULK AT MOST 1048576: true; the input reads as it did. -/
def genMakesUptoRow : OpenClaim := { program := "ytmpeghcilhcpjaa", sum := "4697cae14188797696d7319e4ad49c64900ed62508e10e3c2d9a9fb705aa3967", func := "sheetpile/sheetpilelaw04.GenMakes", spec := "genMakes", unfollowed := true, recurses := true, apart := false, narrowed := true }
def GenMakesUptoSaid : Prop := genMakesUptoRow.holds Try.pinned (OpenSpec.upto genMakesSpec)

/-- 'sheetpilelaw04.GenDecodes', WHERE WHAT IT READS IS OF BULK AT MOST 1048576: true; the input reads as it did. -/
def genDecodesUptoRow : OpenClaim := { program := "ytmpeghcilhcpjaa", sum := "4697cae14188797696d7319e4ad49c64900ed62508e10e3c2d9a9fb705aa3967", func := "sheetpile/sheetpilelaw04.GenDecodes", spec := "genDecodes", unfollowed := true, recurses := true, apart := false, narrowed := true }
def GenDecodesUptoSaid : Prop := genDecodesUptoRow.holds Try.pinned (OpenSpec.upto genDecodesSpec)

/-- 'sheetpilelaw04.GenMinors', WHERE WHAT IT READS IS OF BULK AT MOST 1048576: true; the input reads as it did. -/
def genMinorsUptoRow : OpenClaim := { program := "ytmpeghcilhcpjaa", sum := "4697cae14188797696d7319e4ad49c64900ed62508e10e3c2d9a9fb705aa3967", func := "sheetpile/sheetpilelaw04.GenMinors", spec := "genMinors", unfollowed := true, recurses := true, apart := false, narrowed := true }
def GenMinorsUptoSaid : Prop := genMinorsUptoRow.holds Try.pinned (OpenSpec.upto genMinorsSpec)

/-- 'sheetpilelaw04.GenMore', WHERE WHAT IT READS IS OF BULK AT MOST 1048576: true; the input reads as it did. -/
def genMoreUptoRow : OpenClaim := { program := "ytmpeghcilhcpjaa", sum := "4697cae14188797696d7319e4ad49c64900ed62508e10e3c2d9a9fb705aa3967", func := "sheetpile/sheetpilelaw04.GenMore", spec := "genMore", unfollowed := true, recurses := true, apart := false, narrowed := true }
def GenMoreUptoSaid : Prop := genMoreUptoRow.holds Try.pinned (OpenSpec.upto genMoreSpec)

/-- 'sheetpilelaw04.GenData', WHERE WHAT IT READS IS OF BULK AT MOST 1048576: true; the input reads as it did. -/
def genDataUptoRow : OpenClaim := { program := "ytmpeghcilhcpjaa", sum := "4697cae14188797696d7319e4ad49c64900ed62508e10e3c2d9a9fb705aa3967", func := "sheetpile/sheetpilelaw04.GenData", spec := "genData", unfollowed := true, recurses := true, apart := false, narrowed := true }
def GenDataUptoSaid : Prop := genDataUptoRow.holds Try.pinned (OpenSpec.upto genDataSpec)

/-- 'sheetpilelaw04.GenFirst', WHERE WHAT IT READS IS OF BULK AT MOST 1048576: true; the input reads as it did. -/
def genFirstUptoRow : OpenClaim := { program := "ytmpeghcilhcpjaa", sum := "4697cae14188797696d7319e4ad49c64900ed62508e10e3c2d9a9fb705aa3967", func := "sheetpile/sheetpilelaw04.GenFirst", spec := "genFirst", unfollowed := true, recurses := true, apart := false, narrowed := true }
def GenFirstUptoSaid : Prop := genFirstUptoRow.holds Try.pinned (OpenSpec.upto genFirstSpec)

/-- 'sheetpilelaw03.MatMuls', WHERE WHAT IT READS IS OF BULK AT MOST 1048576: true; the input reads as it did. -/
def matMulsUptoRow : OpenClaim := { program := "ytmpeghcilhcpjaa", sum := "4697cae14188797696d7319e4ad49c64900ed62508e10e3c2d9a9fb705aa3967", func := "sheetpile/sheetpilelaw03.MatMuls", spec := "matMuls", apart := false, narrowed := true }
def MatMulsUptoSaid : Prop := matMulsUptoRow.holds Try.pinned (OpenSpec.upto matMulsSpec)

/-- 'sheetpilelaw03.MatInverts', WHERE WHAT IT READS IS OF BULK AT MOST 1048576: true; the input reads as it did. -/
def matInvertsUptoRow : OpenClaim := { program := "ytmpeghcilhcpjaa", sum := "4697cae14188797696d7319e4ad49c64900ed62508e10e3c2d9a9fb705aa3967", func := "sheetpile/sheetpilelaw03.MatInverts", spec := "matInverts", recurses := true, apart := false, narrowed := true }
def MatInvertsUptoSaid : Prop := matInvertsUptoRow.holds Try.pinned (OpenSpec.upto matInvertsSpec)

/-- 'sheetpilelaw03.MatBack', WHERE WHAT IT READS IS OF BULK AT MOST 1048576: true; the input reads as it did. -/
def matBackUptoRow : OpenClaim := { program := "ytmpeghcilhcpjaa", sum := "4697cae14188797696d7319e4ad49c64900ed62508e10e3c2d9a9fb705aa3967", func := "sheetpile/sheetpilelaw03.MatBack", spec := "matBack", apart := false, narrowed := true }
def MatBackUptoSaid : Prop := matBackUptoRow.holds Try.pinned (OpenSpec.upto matBackSpec)

/-- 'sheetpilelaw03.MatGroups', WHERE WHAT IT READS IS OF BULK AT MOST 1048576: true; the input reads as it did. -/
def matGroupsUptoRow : OpenClaim := { program := "ytmpeghcilhcpjaa", sum := "4697cae14188797696d7319e4ad49c64900ed62508e10e3c2d9a9fb705aa3967", func := "sheetpile/sheetpilelaw03.MatGroups", spec := "matGroups", apart := false, narrowed := true }
def MatGroupsUptoSaid : Prop := matGroupsUptoRow.holds Try.pinned (OpenSpec.upto matGroupsSpec)

/-- 'sheetpilelaw03.MatPicks', WHERE WHAT IT READS IS OF BULK AT MOST 1048576: true; the input reads as it did. -/
def matPicksUptoRow : OpenClaim := { program := "ytmpeghcilhcpjaa", sum := "4697cae14188797696d7319e4ad49c64900ed62508e10e3c2d9a9fb705aa3967", func := "sheetpile/sheetpilelaw03.MatPicks", spec := "matPicks", apart := false, narrowed := true }
def MatPicksUptoSaid : Prop := matPicksUptoRow.holds Try.pinned (OpenSpec.upto matPicksSpec)

/-- 'sheetpilelaw03.MatOrder', WHERE WHAT IT READS IS OF BULK AT MOST 1048576: true; the input reads as it did. -/
def matOrderUptoRow : OpenClaim := { program := "ytmpeghcilhcpjaa", sum := "4697cae14188797696d7319e4ad49c64900ed62508e10e3c2d9a9fb705aa3967", func := "sheetpile/sheetpilelaw03.MatOrder", spec := "matOrder", apart := false, narrowed := true }
def MatOrderUptoSaid : Prop := matOrderUptoRow.holds Try.pinned (OpenSpec.upto matOrderSpec)

/-- 'sheetpilelaw03.MatTwice', WHERE WHAT IT READS IS OF BULK AT MOST 1048576: true; the input reads as it did. -/
def matTwiceUptoRow : OpenClaim := { program := "ytmpeghcilhcpjaa", sum := "4697cae14188797696d7319e4ad49c64900ed62508e10e3c2d9a9fb705aa3967", func := "sheetpile/sheetpilelaw03.MatTwice", spec := "matTwice", apart := false, narrowed := true }
def MatTwiceUptoSaid : Prop := matTwiceUptoRow.holds Try.pinned (OpenSpec.upto matTwiceSpec)

/-- 'sheetpilelaw05.RsEncodes', WHERE WHAT IT READS IS OF BULK AT MOST 1048576: true; the input reads as it did. -/
def rsEncodesUptoRow : OpenClaim := { program := "ytmpeghcilhcpjaa", sum := "4697cae14188797696d7319e4ad49c64900ed62508e10e3c2d9a9fb705aa3967", func := "sheetpile/sheetpilelaw05.RsEncodes", spec := "rsEncodes", unfollowed := true, recurses := true, apart := false, narrowed := true }
def RsEncodesUptoSaid : Prop := rsEncodesUptoRow.holds Try.pinned (OpenSpec.upto rsEncodesSpec)

/-- 'sheetpilelaw05.RsDecodes', WHERE WHAT IT READS IS OF BULK AT MOST 1048576: true; the input reads as it did. -/
def rsDecodesUptoRow : OpenClaim := { program := "ytmpeghcilhcpjaa", sum := "4697cae14188797696d7319e4ad49c64900ed62508e10e3c2d9a9fb705aa3967", func := "sheetpile/sheetpilelaw05.RsDecodes", spec := "rsDecodes", unfollowed := true, recurses := true, apart := false, narrowed := true }
def RsDecodesUptoSaid : Prop := rsDecodesUptoRow.holds Try.pinned (OpenSpec.upto rsDecodesSpec)

/-- 'sheetpilelaw05.RsBack', WHERE WHAT IT READS IS OF BULK AT MOST 1048576: true; the input reads as it did. -/
def rsBackUptoRow : OpenClaim := { program := "ytmpeghcilhcpjaa", sum := "4697cae14188797696d7319e4ad49c64900ed62508e10e3c2d9a9fb705aa3967", func := "sheetpile/sheetpilelaw05.RsBack", spec := "rsBack", unfollowed := true, recurses := true, apart := false, narrowed := true }
def RsBackUptoSaid : Prop := rsBackUptoRow.holds Try.pinned (OpenSpec.upto rsBackSpec)

/-- 'sheetpilelaw05.RsDelta', WHERE WHAT IT READS IS OF BULK AT MOST 1048576: true; the input reads as it did. -/
def rsDeltaUptoRow : OpenClaim := { program := "ytmpeghcilhcpjaa", sum := "4697cae14188797696d7319e4ad49c64900ed62508e10e3c2d9a9fb705aa3967", func := "sheetpile/sheetpilelaw05.RsDelta", spec := "rsDelta", unfollowed := true, recurses := true, apart := false, narrowed := true }
def RsDeltaUptoSaid : Prop := rsDeltaUptoRow.holds Try.pinned (OpenSpec.upto rsDeltaSpec)

/-- 'sheetpilelaw05.RsSums', WHERE WHAT IT READS IS OF BULK AT MOST 1048576: true; the input reads as it did. -/
def rsSumsUptoRow : OpenClaim := { program := "ytmpeghcilhcpjaa", sum := "4697cae14188797696d7319e4ad49c64900ed62508e10e3c2d9a9fb705aa3967", func := "sheetpile/sheetpilelaw05.RsSums", spec := "rsSums", unfollowed := true, recurses := true, apart := false, narrowed := true }
def RsSumsUptoSaid : Prop := rsSumsUptoRow.holds Try.pinned (OpenSpec.upto rsSumsSpec)

/-- 'sheetpilelaw05.RsChanged', WHERE WHAT IT READS IS OF BULK AT MOST 1048576: true; the input reads as it did. -/
def rsChangedUptoRow : OpenClaim := { program := "ytmpeghcilhcpjaa", sum := "4697cae14188797696d7319e4ad49c64900ed62508e10e3c2d9a9fb705aa3967", func := "sheetpile/sheetpilelaw05.RsChanged", spec := "rsChanged", unfollowed := true, recurses := true, apart := false, narrowed := true }
def RsChangedUptoSaid : Prop := rsChangedUptoRow.holds Try.pinned (OpenSpec.upto rsChangedSpec)

end Rows
end Go.Proofs.Ytmpeghcilhcpjaa
