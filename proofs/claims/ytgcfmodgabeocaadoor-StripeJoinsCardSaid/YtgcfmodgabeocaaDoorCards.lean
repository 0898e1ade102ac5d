/-
  DERIVED. GIVEN WITH THE SEED: THE CARDS: each row of YtgcfmodgabeocaaDoorRows.lean that lists a variable, with what it lists TIED to the program's text (the seventh form; the later family's looks); each row that meets fmt, with fmt's text TOLD by the authors' own Lean function (tested against real Go, not proved from fmt's source: count such statements apart). THE CARD IS WHAT COUNTS. Prove the row's statement (the work); the ties are given (YtgcfmodgabeocaaDoorTie.lean); close each card by the builder's one call (the guide's Derived/Test/ToyasCard.lean, 'card_holds'). Laid BY PROGRAM, IN A SANDBOX (cutbox-door.mjs). By AI agents, Wed Nov 11 2026. No macro, syntax, notation, axiom, sorry.
-/
import Derived.Test.YtgcfmodgabeocaaDoorRows
import GoSem.ClaimSeven
namespace Go.Proofs.YtgcfmodgabeocaaDoor
namespace Rows

/-- THE TIED CARD OF 'sheetpilelaw13.StripeSplits'. -/
def stripeSplitsCard : Claim7 := { stood := { row := stripeSplitsRow, standIns := [], harness := (true, "84b9f8e37f730c7177f1a1a633d7a9c2a38d910796acd90ebd1e6fc70619a01e"), looks := false }, kinds := [], alts := [], laidByText := true, laidKinds := [.data, .pinned], laidTests := true, laidLooks := .later }
def StripeSplitsCardSaid : Prop := Claim7.holds Tryd.pinned (.plain (OpenSpec.ofChange stripeSplitsSpec)) stripeSplitsCard

/-- THE TIED CARD OF 'sheetpilelaw13.StripeJoins'. -/
def stripeJoinsCard : Claim7 := { stood := { row := stripeJoinsRow, standIns := [], harness := (true, "84b9f8e37f730c7177f1a1a633d7a9c2a38d910796acd90ebd1e6fc70619a01e"), looks := false }, kinds := [], alts := [], laidByText := true, laidKinds := [.data, .pinned], laidTests := true, laidLooks := .later }
def StripeJoinsCardSaid : Prop := Claim7.holds Tryd.pinned (.plain (OpenSpec.ofChange stripeJoinsSpec)) stripeJoinsCard

/-- THE TIED CARD OF 'sheetpilelaw13.StripeBack'. -/
def stripeBackCard : Claim7 := { stood := { row := stripeBackRow, standIns := [], harness := (true, "84b9f8e37f730c7177f1a1a633d7a9c2a38d910796acd90ebd1e6fc70619a01e"), looks := false }, kinds := [], alts := [], laidByText := true, laidKinds := [.data, .pinned], laidTests := true, laidLooks := .later }
def StripeBackCardSaid : Prop := Claim7.holds Tryd.pinned (.plain (OpenSpec.ofChange stripeBackSpec)) stripeBackCard

/-- THE TIED CARD OF 'sheetpilelaw13.StripeSizes'. -/
def stripeSizesCard : Claim7 := { stood := { row := stripeSizesRow, standIns := [], harness := (true, "84b9f8e37f730c7177f1a1a633d7a9c2a38d910796acd90ebd1e6fc70619a01e"), looks := false }, kinds := [], alts := [], laidByText := true, laidKinds := [.data, .pinned], laidTests := true, laidLooks := .later }
def StripeSizesCardSaid : Prop := Claim7.holds Tryd.pinned (.plain (OpenSpec.ofChange stripeSizesSpec)) stripeSizesCard

/-- THE TIED CARD OF 'sheetpilelaw13.StripeApart'. -/
def stripeApartCard : Claim7 := { stood := { row := stripeApartRow, standIns := [], harness := (true, "84b9f8e37f730c7177f1a1a633d7a9c2a38d910796acd90ebd1e6fc70619a01e"), looks := false }, kinds := [], alts := [], laidByText := true, laidKinds := [.data, .pinned], laidTests := true, laidLooks := .later }
def StripeApartCardSaid : Prop := Claim7.holds Tryd.pinned (.plain (OpenSpec.ofChange stripeApartSpec)) stripeApartCard

/-- THE SECOND FORM's CARD OF 'sheetpilelaw13.StripeSplits'. -/
def stripeSplitsUptoCard : Claim7 := { stood := { row := stripeSplitsUptoRow, standIns := [], harness := (true, "84b9f8e37f730c7177f1a1a633d7a9c2a38d910796acd90ebd1e6fc70619a01e"), looks := false }, kinds := [], alts := [], laidByText := true, laidKinds := [.data, .pinned], laidTests := true, laidLooks := .later }
def StripeSplitsUptoCardSaid : Prop := Claim7.holds Tryd.pinned (.plain (OpenSpec.upto stripeSplitsSpec)) stripeSplitsUptoCard

/-- THE SECOND FORM's CARD OF 'sheetpilelaw13.StripeJoins'. -/
def stripeJoinsUptoCard : Claim7 := { stood := { row := stripeJoinsUptoRow, standIns := [], harness := (true, "84b9f8e37f730c7177f1a1a633d7a9c2a38d910796acd90ebd1e6fc70619a01e"), looks := false }, kinds := [], alts := [], laidByText := true, laidKinds := [.data, .pinned], laidTests := true, laidLooks := .later }
def StripeJoinsUptoCardSaid : Prop := Claim7.holds Tryd.pinned (.plain (OpenSpec.upto stripeJoinsSpec)) stripeJoinsUptoCard

/-- THE SECOND FORM's CARD OF 'sheetpilelaw13.StripeBack'. -/
def stripeBackUptoCard : Claim7 := { stood := { row := stripeBackUptoRow, standIns := [], harness := (true, "84b9f8e37f730c7177f1a1a633d7a9c2a38d910796acd90ebd1e6fc70619a01e"), looks := false }, kinds := [], alts := [], laidByText := true, laidKinds := [.data, .pinned], laidTests := true, laidLooks := .later }
def StripeBackUptoCardSaid : Prop := Claim7.holds Tryd.pinned (.plain (OpenSpec.upto stripeBackSpec)) stripeBackUptoCard

/-- THE SECOND FORM's CARD OF 'sheetpilelaw13.StripeSizes'. -/
def stripeSizesUptoCard : Claim7 := { stood := { row := stripeSizesUptoRow, standIns := [], harness := (true, "84b9f8e37f730c7177f1a1a633d7a9c2a38d910796acd90ebd1e6fc70619a01e"), looks := false }, kinds := [], alts := [], laidByText := true, laidKinds := [.data, .pinned], laidTests := true, laidLooks := .later }
def StripeSizesUptoCardSaid : Prop := Claim7.holds Tryd.pinned (.plain (OpenSpec.upto stripeSizesSpec)) stripeSizesUptoCard

/-- THE SECOND FORM's CARD OF 'sheetpilelaw13.StripeApart'. -/
def stripeApartUptoCard : Claim7 := { stood := { row := stripeApartUptoRow, standIns := [], harness := (true, "84b9f8e37f730c7177f1a1a633d7a9c2a38d910796acd90ebd1e6fc70619a01e"), looks := false }, kinds := [], alts := [], laidByText := true, laidKinds := [.data, .pinned], laidTests := true, laidLooks := .later }
def StripeApartUptoCardSaid : Prop := Claim7.holds Tryd.pinned (.plain (OpenSpec.upto stripeApartSpec)) stripeApartUptoCard
end Rows
end Go.Proofs.YtgcfmodgabeocaaDoor
