/-
  DERIVED. GIVEN WITH THE SEED: THE CARDS: each row of YtkkhoflfhonlgaaDoorRows.lean that lists a variable, with what it lists TIED to the program's text (the seventh form; the later family's looks); each row that meets fmt, with fmt's text TOLD by the authors' own Lean function (tested against real Go, not proved from fmt's source: count such statements apart). THE CARD IS WHAT COUNTS. Prove the row's statement (the work); the ties are given (YtkkhoflfhonlgaaDoorTie.lean); close each card by the builder's one call (the guide's Derived/Test/ToyasCard.lean, 'card_holds'). Laid BY PROGRAM, IN A SANDBOX (cutbox-door.mjs). By AI agents, Wed Nov 11 2026. No macro, syntax, notation, axiom, sorry.
-/
import Derived.Test.YtkkhoflfhonlgaaDoorRows
import GoSem.ClaimSeven
namespace Go.Proofs.YtkkhoflfhonlgaaDoor
namespace Rows

/-- THE TIED CARD OF 'hazellaw15.CallTells'. -/
def callTellsCard : Claim7 := { stood := { row := callTellsRow, standIns := [], harness := (true, "ff2b209905071b229394137ba148ab1a99276f0a9ec90b1862ed281ee95e50a6"), looks := true }, kinds := [], alts := [], laidByText := true, laidKinds := [.data, .data, .data, .data, .sentinel, .sentinel, .pinned], laidTests := true, laidLooks := .later }
def CallTellsCardSaid : Prop := Claim7.holds Tryd.pinned (.plain (OpenSpec.ofChange callTellsSpec)) callTellsCard

/-- THE TIED CARD OF 'hazellaw15.CallTexts'. -/
def callTextsCard : Claim7 := { stood := { row := callTextsRow, standIns := [], harness := (true, "ff2b209905071b229394137ba148ab1a99276f0a9ec90b1862ed281ee95e50a6"), looks := true }, kinds := [], alts := [], laidByText := true, laidKinds := [.data, .data, .data, .data, .sentinel, .sentinel, .pinned], laidTests := true, laidLooks := .later }
def CallTextsCardSaid : Prop := Claim7.holds Tryd.pinned (.plain (OpenSpec.ofChange callTextsSpec)) callTextsCard

/-- THE TIED CARD OF 'hazellaw15.CallBack'. -/
def callBackCard : Claim7 := { stood := { row := callBackRow, standIns := [], harness := (true, "ff2b209905071b229394137ba148ab1a99276f0a9ec90b1862ed281ee95e50a6"), looks := true }, kinds := [], alts := [], laidByText := true, laidKinds := [.data, .data, .data, .data, .sentinel, .sentinel, .pinned], laidTests := true, laidLooks := .later }
def CallBackCardSaid : Prop := Claim7.holds Tryd.pinned (.plain (OpenSpec.ofChange callBackSpec)) callBackCard

/-- THE TIED CARD OF 'hazellaw15.CallStops'. -/
def callStopsCard : Claim7 := { stood := { row := callStopsRow, standIns := [], harness := (true, "ff2b209905071b229394137ba148ab1a99276f0a9ec90b1862ed281ee95e50a6"), looks := true }, kinds := [], alts := [], laidByText := true, laidKinds := [.data, .data, .data, .data, .sentinel, .sentinel, .pinned], laidTests := true, laidLooks := .later }
def CallStopsCardSaid : Prop := Claim7.holds Tryd.pinned (.plain (OpenSpec.ofChange callStopsSpec)) callStopsCard

/-- THE TIED CARD OF 'hazellaw15.CallMay'. -/
def callMayCard : Claim7 := { stood := { row := callMayRow, standIns := [], harness := (true, "ff2b209905071b229394137ba148ab1a99276f0a9ec90b1862ed281ee95e50a6"), looks := true }, kinds := [], alts := [], laidByText := true, laidKinds := [.data, .data, .data, .data, .sentinel, .sentinel, .pinned], laidTests := true, laidLooks := .later }
def CallMayCardSaid : Prop := Claim7.holds Tryd.pinned (.plain (OpenSpec.ofChange callMaySpec)) callMayCard

/-- THE TIED CARD OF 'hazellaw15.CallKinds'. -/
def callKindsCard : Claim7 := { stood := { row := callKindsRow, standIns := [], harness := (true, "ff2b209905071b229394137ba148ab1a99276f0a9ec90b1862ed281ee95e50a6"), looks := true }, kinds := [], alts := [], laidByText := true, laidKinds := [.data, .data, .data, .data, .sentinel, .sentinel, .pinned], laidTests := true, laidLooks := .later }
def CallKindsCardSaid : Prop := Claim7.holds Tryd.pinned (.plain (OpenSpec.ofChange callKindsSpec)) callKindsCard

/-- THE TIED CARD OF 'hazellaw15.CallLines'. -/
def callLinesCard : Claim7 := { stood := { row := callLinesRow, standIns := [], harness := (true, "ff2b209905071b229394137ba148ab1a99276f0a9ec90b1862ed281ee95e50a6"), looks := true }, kinds := [], alts := [], laidByText := true, laidKinds := [.data, .data, .data, .data, .sentinel, .sentinel, .pinned], laidTests := true, laidLooks := .later }
def CallLinesCardSaid : Prop := Claim7.holds Tryd.pinned (.plain (OpenSpec.ofChange callLinesSpec)) callLinesCard

/-- THE TIED CARD OF 'hazellaw15.CallSame'. -/
def callSameCard : Claim7 := { stood := { row := callSameRow, standIns := [], harness := (true, "ff2b209905071b229394137ba148ab1a99276f0a9ec90b1862ed281ee95e50a6"), looks := true }, kinds := [], alts := [], laidByText := true, laidKinds := [.data, .data, .data, .data, .sentinel, .sentinel, .pinned], laidTests := true, laidLooks := .later }
def CallSameCardSaid : Prop := Claim7.holds Tryd.pinned (.plain (OpenSpec.ofChange callSameSpec)) callSameCard

/-- THE SECOND FORM's CARD OF 'hazellaw15.CallTells'. -/
def callTellsUptoCard : Claim7 := { stood := { row := callTellsUptoRow, standIns := [], harness := (true, "ff2b209905071b229394137ba148ab1a99276f0a9ec90b1862ed281ee95e50a6"), looks := true }, kinds := [], alts := [], laidByText := true, laidKinds := [.data, .data, .data, .data, .sentinel, .sentinel, .pinned], laidTests := true, laidLooks := .later }
def CallTellsUptoCardSaid : Prop := Claim7.holds Tryd.pinned (.plain (OpenSpec.upto callTellsSpec)) callTellsUptoCard

/-- THE SECOND FORM's CARD OF 'hazellaw15.CallTexts'. -/
def callTextsUptoCard : Claim7 := { stood := { row := callTextsUptoRow, standIns := [], harness := (true, "ff2b209905071b229394137ba148ab1a99276f0a9ec90b1862ed281ee95e50a6"), looks := true }, kinds := [], alts := [], laidByText := true, laidKinds := [.data, .data, .data, .data, .sentinel, .sentinel, .pinned], laidTests := true, laidLooks := .later }
def CallTextsUptoCardSaid : Prop := Claim7.holds Tryd.pinned (.plain (OpenSpec.upto callTextsSpec)) callTextsUptoCard

/-- THE SECOND FORM's CARD OF 'hazellaw15.CallBack'. -/
def callBackUptoCard : Claim7 := { stood := { row := callBackUptoRow, standIns := [], harness := (true, "ff2b209905071b229394137ba148ab1a99276f0a9ec90b1862ed281ee95e50a6"), looks := true }, kinds := [], alts := [], laidByText := true, laidKinds := [.data, .data, .data, .data, .sentinel, .sentinel, .pinned], laidTests := true, laidLooks := .later }
def CallBackUptoCardSaid : Prop := Claim7.holds Tryd.pinned (.plain (OpenSpec.upto callBackSpec)) callBackUptoCard

/-- THE SECOND FORM's CARD OF 'hazellaw15.CallStops'. -/
def callStopsUptoCard : Claim7 := { stood := { row := callStopsUptoRow, standIns := [], harness := (true, "ff2b209905071b229394137ba148ab1a99276f0a9ec90b1862ed281ee95e50a6"), looks := true }, kinds := [], alts := [], laidByText := true, laidKinds := [.data, .data, .data, .data, .sentinel, .sentinel, .pinned], laidTests := true, laidLooks := .later }
def CallStopsUptoCardSaid : Prop := Claim7.holds Tryd.pinned (.plain (OpenSpec.upto callStopsSpec)) callStopsUptoCard

/-- THE SECOND FORM's CARD OF 'hazellaw15.CallMay'. -/
def callMayUptoCard : Claim7 := { stood := { row := callMayUptoRow, standIns := [], harness := (true, "ff2b209905071b229394137ba148ab1a99276f0a9ec90b1862ed281ee95e50a6"), looks := true }, kinds := [], alts := [], laidByText := true, laidKinds := [.data, .data, .data, .data, .sentinel, .sentinel, .pinned], laidTests := true, laidLooks := .later }
def CallMayUptoCardSaid : Prop := Claim7.holds Tryd.pinned (.plain (OpenSpec.upto callMaySpec)) callMayUptoCard

/-- THE SECOND FORM's CARD OF 'hazellaw15.CallKinds'. -/
def callKindsUptoCard : Claim7 := { stood := { row := callKindsUptoRow, standIns := [], harness := (true, "ff2b209905071b229394137ba148ab1a99276f0a9ec90b1862ed281ee95e50a6"), looks := true }, kinds := [], alts := [], laidByText := true, laidKinds := [.data, .data, .data, .data, .sentinel, .sentinel, .pinned], laidTests := true, laidLooks := .later }
def CallKindsUptoCardSaid : Prop := Claim7.holds Tryd.pinned (.plain (OpenSpec.upto callKindsSpec)) callKindsUptoCard

/-- THE SECOND FORM's CARD OF 'hazellaw15.CallLines'. -/
def callLinesUptoCard : Claim7 := { stood := { row := callLinesUptoRow, standIns := [], harness := (true, "ff2b209905071b229394137ba148ab1a99276f0a9ec90b1862ed281ee95e50a6"), looks := true }, kinds := [], alts := [], laidByText := true, laidKinds := [.data, .data, .data, .data, .sentinel, .sentinel, .pinned], laidTests := true, laidLooks := .later }
def CallLinesUptoCardSaid : Prop := Claim7.holds Tryd.pinned (.plain (OpenSpec.upto callLinesSpec)) callLinesUptoCard

/-- THE SECOND FORM's CARD OF 'hazellaw15.CallSame'. -/
def callSameUptoCard : Claim7 := { stood := { row := callSameUptoRow, standIns := [], harness := (true, "ff2b209905071b229394137ba148ab1a99276f0a9ec90b1862ed281ee95e50a6"), looks := true }, kinds := [], alts := [], laidByText := true, laidKinds := [.data, .data, .data, .data, .sentinel, .sentinel, .pinned], laidTests := true, laidLooks := .later }
def CallSameUptoCardSaid : Prop := Claim7.holds Tryd.pinned (.plain (OpenSpec.upto callSameSpec)) callSameUptoCard
end Rows
end Go.Proofs.YtkkhoflfhonlgaaDoor
