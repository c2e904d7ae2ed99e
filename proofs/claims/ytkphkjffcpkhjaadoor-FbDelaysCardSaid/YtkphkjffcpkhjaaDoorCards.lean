/-
  DERIVED. GIVEN WITH THE SEED: THE CARDS: each row of YtkphkjffcpkhjaaDoorRows.lean that lists a variable, with what it lists TIED to the program's text (the seventh form; the later family's looks); each row that meets fmt, with fmt's text TOLD by the authors' own Lean function (tested against real Go, not proved from fmt's source: count such statements apart). THE CARD IS WHAT COUNTS. Prove the row's statement (the work); the ties are given (YtkphkjffcpkhjaaDoorTie.lean); close each card by the builder's one call (the guide's Derived/Test/ToyasCard.lean, 'card_holds'). Laid BY PROGRAM, IN A SANDBOX (cutbox-door.mjs). By AI agents, Wed Nov 11 2026. No macro, syntax, notation, axiom, sorry.
-/
import Derived.Test.YtkphkjffcpkhjaaDoorRows
import GoSem.ClaimSeven
namespace Go.Proofs.YtkphkjffcpkhjaaDoor
namespace Rows

/-- THE TIED CARD OF 'runglaw17.FbDelays'. -/
def fbDelaysCard : Claim7 := { stood := { row := fbDelaysRow, standIns := [], harness := (true, "09fda92184a8400bbd2e43ac71c688daac006d731d374876dc34d34786d9df8f"), looks := true }, kinds := [], alts := [], laidByText := true, laidKinds := [.listed, .data], laidTests := true, laidLooks := .later }
def FbDelaysCardSaid : Prop := Claim7.holds Tryd.pinned (.plain (OpenSpec.ofChange fbDelaysSpec)) fbDelaysCard

/-- THE TIED CARD OF 'runglaw17.FbCounts'. -/
def fbCountsCard : Claim7 := { stood := { row := fbCountsRow, standIns := [], harness := (true, "09fda92184a8400bbd2e43ac71c688daac006d731d374876dc34d34786d9df8f"), looks := true }, kinds := [], alts := [], laidByText := true, laidKinds := [.listed, .data], laidTests := true, laidLooks := .later }
def FbCountsCardSaid : Prop := Claim7.holds Tryd.pinned (.plain (OpenSpec.ofChange fbCountsSpec)) fbCountsCard

/-- THE TIED CARD OF 'runglaw17.FbApart'. -/
def fbApartCard : Claim7 := { stood := { row := fbApartRow, standIns := [], harness := (true, "09fda92184a8400bbd2e43ac71c688daac006d731d374876dc34d34786d9df8f"), looks := true }, kinds := [], alts := [], laidByText := true, laidKinds := [.listed, .data], laidTests := true, laidLooks := .later }
def FbApartCardSaid : Prop := Claim7.holds Tryd.pinned (.plain (OpenSpec.ofChange fbApartSpec)) fbApartCard

/-- THE TIED CARD OF 'runglaw17.FbBoth'. -/
def fbBothCard : Claim7 := { stood := { row := fbBothRow, standIns := [], harness := (true, "09fda92184a8400bbd2e43ac71c688daac006d731d374876dc34d34786d9df8f"), looks := true }, kinds := [], alts := [], laidByText := true, laidKinds := [.listed, .data], laidTests := true, laidLooks := .later }
def FbBothCardSaid : Prop := Claim7.holds Tryd.pinned (.plain (OpenSpec.ofChange fbBothSpec)) fbBothCard

/-- THE TIED CARD OF 'runglaw17.FbEver'. -/
def fbEverCard : Claim7 := { stood := { row := fbEverRow, standIns := [], harness := (true, "09fda92184a8400bbd2e43ac71c688daac006d731d374876dc34d34786d9df8f"), looks := true }, kinds := [], alts := [], laidByText := true, laidKinds := [.listed, .data], laidTests := true, laidLooks := .later }
def FbEverCardSaid : Prop := Claim7.holds Tryd.pinned (.plain (OpenSpec.ofChange fbEverSpec)) fbEverCard

/-- THE TIED CARD OF 'runglaw20.CodeLong'. -/
def codeLongCard : Claim7 := { stood := { row := codeLongRow, standIns := [], harness := (true, "09fda92184a8400bbd2e43ac71c688daac006d731d374876dc34d34786d9df8f"), looks := true }, kinds := [], alts := [], laidByText := true, laidKinds := [.data, .data, .data, .handle, .listed, .data], laidTests := true, laidLooks := .later }
def CodeLongCardSaid : Prop := Claim7.holds Tryd.pinned (.plain (OpenSpec.ofChange codeLongSpec)) codeLongCard

/-- THE TIED CARD OF 'runglaw20.CodeDeep'. -/
def codeDeepCard : Claim7 := { stood := { row := codeDeepRow, standIns := [], harness := (true, "09fda92184a8400bbd2e43ac71c688daac006d731d374876dc34d34786d9df8f"), looks := true }, kinds := [], alts := [], laidByText := true, laidKinds := [.data, .data, .data, .handle, .listed, .data], laidTests := true, laidLooks := .later }
def CodeDeepCardSaid : Prop := Claim7.holds Tryd.pinned (.plain (OpenSpec.ofChange codeDeepSpec)) codeDeepCard

/-- THE TIED CARD OF 'runglaw20.CodeWays'. -/
def codeWaysCard : Claim7 := { stood := { row := codeWaysRow, standIns := [], harness := (true, "09fda92184a8400bbd2e43ac71c688daac006d731d374876dc34d34786d9df8f"), looks := true }, kinds := [], alts := [], laidByText := true, laidKinds := [.data, .data, .data, .handle, .listed, .data], laidTests := true, laidLooks := .later }
def CodeWaysCardSaid : Prop := Claim7.holds Tryd.pinned (.plain (OpenSpec.ofChange codeWaysSpec)) codeWaysCard

/-- THE TIED CARD OF 'runglaw20.CodePicks'. -/
def codePicksCard : Claim7 := { stood := { row := codePicksRow, standIns := [], harness := (true, "09fda92184a8400bbd2e43ac71c688daac006d731d374876dc34d34786d9df8f"), looks := true }, kinds := [], alts := [], laidByText := true, laidKinds := [.data, .data, .data, .handle, .listed, .data], laidTests := true, laidLooks := .later }
def CodePicksCardSaid : Prop := Claim7.holds Tryd.pinned (.plain (OpenSpec.ofChange codePicksSpec)) codePicksCard

/-- THE SECOND FORM's CARD OF 'runglaw17.FbDelays'. -/
def fbDelaysUptoCard : Claim7 := { stood := { row := fbDelaysUptoRow, standIns := [], harness := (true, "09fda92184a8400bbd2e43ac71c688daac006d731d374876dc34d34786d9df8f"), looks := true }, kinds := [], alts := [], laidByText := true, laidKinds := [.listed, .data], laidTests := true, laidLooks := .later }
def FbDelaysUptoCardSaid : Prop := Claim7.holds Tryd.pinned (.plain (OpenSpec.upto fbDelaysSpec)) fbDelaysUptoCard

/-- THE SECOND FORM's CARD OF 'runglaw17.FbCounts'. -/
def fbCountsUptoCard : Claim7 := { stood := { row := fbCountsUptoRow, standIns := [], harness := (true, "09fda92184a8400bbd2e43ac71c688daac006d731d374876dc34d34786d9df8f"), looks := true }, kinds := [], alts := [], laidByText := true, laidKinds := [.listed, .data], laidTests := true, laidLooks := .later }
def FbCountsUptoCardSaid : Prop := Claim7.holds Tryd.pinned (.plain (OpenSpec.upto fbCountsSpec)) fbCountsUptoCard

/-- THE SECOND FORM's CARD OF 'runglaw17.FbApart'. -/
def fbApartUptoCard : Claim7 := { stood := { row := fbApartUptoRow, standIns := [], harness := (true, "09fda92184a8400bbd2e43ac71c688daac006d731d374876dc34d34786d9df8f"), looks := true }, kinds := [], alts := [], laidByText := true, laidKinds := [.listed, .data], laidTests := true, laidLooks := .later }
def FbApartUptoCardSaid : Prop := Claim7.holds Tryd.pinned (.plain (OpenSpec.upto fbApartSpec)) fbApartUptoCard

/-- THE SECOND FORM's CARD OF 'runglaw17.FbBoth'. -/
def fbBothUptoCard : Claim7 := { stood := { row := fbBothUptoRow, standIns := [], harness := (true, "09fda92184a8400bbd2e43ac71c688daac006d731d374876dc34d34786d9df8f"), looks := true }, kinds := [], alts := [], laidByText := true, laidKinds := [.listed, .data], laidTests := true, laidLooks := .later }
def FbBothUptoCardSaid : Prop := Claim7.holds Tryd.pinned (.plain (OpenSpec.upto fbBothSpec)) fbBothUptoCard

/-- THE SECOND FORM's CARD OF 'runglaw17.FbEver'. -/
def fbEverUptoCard : Claim7 := { stood := { row := fbEverUptoRow, standIns := [], harness := (true, "09fda92184a8400bbd2e43ac71c688daac006d731d374876dc34d34786d9df8f"), looks := true }, kinds := [], alts := [], laidByText := true, laidKinds := [.listed, .data], laidTests := true, laidLooks := .later }
def FbEverUptoCardSaid : Prop := Claim7.holds Tryd.pinned (.plain (OpenSpec.upto fbEverSpec)) fbEverUptoCard

/-- THE SECOND FORM's CARD OF 'runglaw20.CodeLong'. -/
def codeLongUptoCard : Claim7 := { stood := { row := codeLongUptoRow, standIns := [], harness := (true, "09fda92184a8400bbd2e43ac71c688daac006d731d374876dc34d34786d9df8f"), looks := true }, kinds := [], alts := [], laidByText := true, laidKinds := [.data, .data, .data, .handle, .listed, .data], laidTests := true, laidLooks := .later }
def CodeLongUptoCardSaid : Prop := Claim7.holds Tryd.pinned (.plain (OpenSpec.upto codeLongSpec)) codeLongUptoCard

/-- THE SECOND FORM's CARD OF 'runglaw20.CodeDeep'. -/
def codeDeepUptoCard : Claim7 := { stood := { row := codeDeepUptoRow, standIns := [], harness := (true, "09fda92184a8400bbd2e43ac71c688daac006d731d374876dc34d34786d9df8f"), looks := true }, kinds := [], alts := [], laidByText := true, laidKinds := [.data, .data, .data, .handle, .listed, .data], laidTests := true, laidLooks := .later }
def CodeDeepUptoCardSaid : Prop := Claim7.holds Tryd.pinned (.plain (OpenSpec.upto codeDeepSpec)) codeDeepUptoCard

/-- THE SECOND FORM's CARD OF 'runglaw20.CodeWays'. -/
def codeWaysUptoCard : Claim7 := { stood := { row := codeWaysUptoRow, standIns := [], harness := (true, "09fda92184a8400bbd2e43ac71c688daac006d731d374876dc34d34786d9df8f"), looks := true }, kinds := [], alts := [], laidByText := true, laidKinds := [.data, .data, .data, .handle, .listed, .data], laidTests := true, laidLooks := .later }
def CodeWaysUptoCardSaid : Prop := Claim7.holds Tryd.pinned (.plain (OpenSpec.upto codeWaysSpec)) codeWaysUptoCard

/-- THE SECOND FORM's CARD OF 'runglaw20.CodePicks'. -/
def codePicksUptoCard : Claim7 := { stood := { row := codePicksUptoRow, standIns := [], harness := (true, "09fda92184a8400bbd2e43ac71c688daac006d731d374876dc34d34786d9df8f"), looks := true }, kinds := [], alts := [], laidByText := true, laidKinds := [.data, .data, .data, .handle, .listed, .data], laidTests := true, laidLooks := .later }
def CodePicksUptoCardSaid : Prop := Claim7.holds Tryd.pinned (.plain (OpenSpec.upto codePicksSpec)) codePicksUptoCard
end Rows
end Go.Proofs.YtkphkjffcpkhjaaDoor
