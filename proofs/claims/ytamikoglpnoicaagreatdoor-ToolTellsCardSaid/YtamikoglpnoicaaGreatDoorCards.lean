/-
  DERIVED. GIVEN WITH THE SEED: THE CARDS: each row of YtamikoglpnoicaaGreatDoorRows.lean that lists a variable, with what it lists TIED to the program's text (the seventh form; the later family's looks); each row that meets fmt, with fmt's text TOLD by the authors' own Lean function (tested against real Go, not proved from fmt's source: count such statements apart). THE CARD IS WHAT COUNTS. Prove the row's statement (the work); the ties are given (YtamikoglpnoicaaGreatDoorTie.lean); close each card by the builder's one call (the guide's Derived/Test/ToyasCard.lean, 'card_holds'). Laid BY PROGRAM, IN A SANDBOX (cutbox-door.mjs). By AI agents, Wed Nov 11 2026. No macro, syntax, notation, axiom, sorry.
-/
import Derived.Test.YtamikoglpnoicaaGreatDoorRows
import GoSem.ClaimSeven
namespace Go.Proofs.YtamikoglpnoicaaGreatDoor
namespace Rows

/-- THE TIED CARD OF 'hazellaw20.ToolTells'. -/
def toolTellsCard : Claim7 := { stood := { row := toolTellsRow, standIns := [], harness := (true, "fad3822e4c3238e0715d09156ba720034c4347236d647728db356adb10470ef3"), looks := true }, kinds := [], alts := [], laidByText := true, laidKinds := [.data, .data, .data, .data, .sentinel, .sentinel, .pinned], laidTests := true, laidLooks := .later }
def ToolTellsCardSaid : Prop := Claim7.holds Tryz.pinned (.plain (OpenSpec.ofChange toolTellsSpec)) toolTellsCard

/-- THE TIED CARD OF 'hazellaw20.ToolBack'. -/
def toolBackCard : Claim7 := { stood := { row := toolBackRow, standIns := [], harness := (true, "fad3822e4c3238e0715d09156ba720034c4347236d647728db356adb10470ef3"), looks := true }, kinds := [], alts := [], laidByText := true, laidKinds := [.data, .data, .data, .data, .sentinel, .sentinel, .pinned], laidTests := true, laidLooks := .later }
def ToolBackCardSaid : Prop := Claim7.holds Tryz.pinned (.plain (OpenSpec.ofChange toolBackSpec)) toolBackCard

/-- THE TIED CARD OF 'hazellaw20.ToolLines'. -/
def toolLinesCard : Claim7 := { stood := { row := toolLinesRow, standIns := [], harness := (true, "fad3822e4c3238e0715d09156ba720034c4347236d647728db356adb10470ef3"), looks := true }, kinds := [], alts := [], laidByText := true, laidKinds := [.data, .data, .data, .data, .sentinel, .sentinel, .pinned], laidTests := true, laidLooks := .later }
def ToolLinesCardSaid : Prop := Claim7.holds Tryz.pinned (.plain (OpenSpec.ofChange toolLinesSpec)) toolLinesCard

/-- THE TIED CARD OF 'hazellaw20.ToolMoves'. -/
def toolMovesCard : Claim7 := { stood := { row := toolMovesRow, standIns := [], harness := (true, "fad3822e4c3238e0715d09156ba720034c4347236d647728db356adb10470ef3"), looks := true }, kinds := [], alts := [], laidByText := true, laidKinds := [.data, .data, .data, .data, .sentinel, .sentinel, .pinned], laidTests := true, laidLooks := .later }
def ToolMovesCardSaid : Prop := Claim7.holds Tryz.pinned (.plain (OpenSpec.ofChange toolMovesSpec)) toolMovesCard

/-- THE TIED CARD OF 'hazellaw20.ToolSyscalls'. -/
def toolSyscallsCard : Claim7 := { stood := { row := toolSyscallsRow, standIns := [], harness := (true, "fad3822e4c3238e0715d09156ba720034c4347236d647728db356adb10470ef3"), looks := true }, kinds := [], alts := [], laidByText := true, laidKinds := [.data, .data, .data, .data, .sentinel, .sentinel, .pinned], laidTests := true, laidLooks := .later }
def ToolSyscallsCardSaid : Prop := Claim7.holds Tryz.pinned (.plain (OpenSpec.ofChange toolSyscallsSpec)) toolSyscallsCard

/-- THE SECOND FORM's CARD OF 'hazellaw20.ToolTells'. -/
def toolTellsUptoCard : Claim7 := { stood := { row := toolTellsUptoRow, standIns := [], harness := (true, "fad3822e4c3238e0715d09156ba720034c4347236d647728db356adb10470ef3"), looks := true }, kinds := [], alts := [], laidByText := true, laidKinds := [.data, .data, .data, .data, .sentinel, .sentinel, .pinned], laidTests := true, laidLooks := .later }
def ToolTellsUptoCardSaid : Prop := Claim7.holds Tryz.pinned (.plain (OpenSpec.upto toolTellsSpec)) toolTellsUptoCard

/-- THE SECOND FORM's CARD OF 'hazellaw20.ToolBack'. -/
def toolBackUptoCard : Claim7 := { stood := { row := toolBackUptoRow, standIns := [], harness := (true, "fad3822e4c3238e0715d09156ba720034c4347236d647728db356adb10470ef3"), looks := true }, kinds := [], alts := [], laidByText := true, laidKinds := [.data, .data, .data, .data, .sentinel, .sentinel, .pinned], laidTests := true, laidLooks := .later }
def ToolBackUptoCardSaid : Prop := Claim7.holds Tryz.pinned (.plain (OpenSpec.upto toolBackSpec)) toolBackUptoCard

/-- THE SECOND FORM's CARD OF 'hazellaw20.ToolLines'. -/
def toolLinesUptoCard : Claim7 := { stood := { row := toolLinesUptoRow, standIns := [], harness := (true, "fad3822e4c3238e0715d09156ba720034c4347236d647728db356adb10470ef3"), looks := true }, kinds := [], alts := [], laidByText := true, laidKinds := [.data, .data, .data, .data, .sentinel, .sentinel, .pinned], laidTests := true, laidLooks := .later }
def ToolLinesUptoCardSaid : Prop := Claim7.holds Tryz.pinned (.plain (OpenSpec.upto toolLinesSpec)) toolLinesUptoCard

/-- THE SECOND FORM's CARD OF 'hazellaw20.ToolMoves'. -/
def toolMovesUptoCard : Claim7 := { stood := { row := toolMovesUptoRow, standIns := [], harness := (true, "fad3822e4c3238e0715d09156ba720034c4347236d647728db356adb10470ef3"), looks := true }, kinds := [], alts := [], laidByText := true, laidKinds := [.data, .data, .data, .data, .sentinel, .sentinel, .pinned], laidTests := true, laidLooks := .later }
def ToolMovesUptoCardSaid : Prop := Claim7.holds Tryz.pinned (.plain (OpenSpec.upto toolMovesSpec)) toolMovesUptoCard

/-- THE SECOND FORM's CARD OF 'hazellaw20.ToolSyscalls'. -/
def toolSyscallsUptoCard : Claim7 := { stood := { row := toolSyscallsUptoRow, standIns := [], harness := (true, "fad3822e4c3238e0715d09156ba720034c4347236d647728db356adb10470ef3"), looks := true }, kinds := [], alts := [], laidByText := true, laidKinds := [.data, .data, .data, .data, .sentinel, .sentinel, .pinned], laidTests := true, laidLooks := .later }
def ToolSyscallsUptoCardSaid : Prop := Claim7.holds Tryz.pinned (.plain (OpenSpec.upto toolSyscallsSpec)) toolSyscallsUptoCard
end Rows
end Go.Proofs.YtamikoglpnoicaaGreatDoor
