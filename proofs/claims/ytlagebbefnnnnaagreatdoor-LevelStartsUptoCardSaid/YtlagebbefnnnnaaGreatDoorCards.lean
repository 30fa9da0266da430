/-
  DERIVED. GIVEN WITH THE SEED: THE CARDS: each row of YtlagebbefnnnnaaGreatDoorRows.lean that lists a variable, with what it lists TIED to the program's text (the seventh form; the later family's looks); each row that meets fmt, with fmt's text TOLD by the authors' own Lean function (tested against real Go, not proved from fmt's source: count such statements apart). THE CARD IS WHAT COUNTS. Prove the row's statement (the work); the ties are given (YtlagebbefnnnnaaGreatDoorTie.lean); close each card by the builder's one call (the guide's Derived/Test/ToyasCard.lean, 'card_holds'). Laid BY PROGRAM, IN A SANDBOX (cutbox-door.mjs). By AI agents, Wed Nov 11 2026. No macro, syntax, notation, axiom, sorry.
-/
import Derived.Test.YtlagebbefnnnnaaGreatDoorRows
import GoSem.ClaimSeven
namespace Go.Proofs.YtlagebbefnnnnaaGreatDoor
namespace Rows

/-- THE TIED CARD OF 'kingpostlaw16.FrontCorners'. -/
def frontCornersCard : Claim7 := { stood := { row := frontCornersRow, standIns := [], harness := (true, "f84f07e63380a985283d52b50418ff6233dea90d67919f022a869fc0020f0574"), looks := true }, kinds := [], alts := [], laidByText := true, laidKinds := [.data, .data, .data, .data, .sentinel, .sentinel, .data, .pinned], laidTests := true, laidLooks := .later }
def FrontCornersCardSaid : Prop := Claim7.holds Tryz.pinned (.plain (OpenSpec.ofChange frontCornersSpec)) frontCornersCard

/-- THE TIED CARD OF 'kingpostlaw16.FrontInside'. -/
def frontInsideCard : Claim7 := { stood := { row := frontInsideRow, standIns := [], harness := (true, "f84f07e63380a985283d52b50418ff6233dea90d67919f022a869fc0020f0574"), looks := true }, kinds := [], alts := [], laidByText := true, laidKinds := [.data, .data, .data, .data, .sentinel, .sentinel, .data, .pinned], laidTests := true, laidLooks := .later }
def FrontInsideCardSaid : Prop := Claim7.holds Tryz.pinned (.plain (OpenSpec.ofChange frontInsideSpec)) frontInsideCard

/-- THE TIED CARD OF 'kingpostlaw17.LevelStarts'. -/
def levelStartsCard : Claim7 := { stood := { row := levelStartsRow, standIns := [], harness := (true, "f84f07e63380a985283d52b50418ff6233dea90d67919f022a869fc0020f0574"), looks := true }, kinds := [], alts := [], laidByText := true, laidKinds := [.data, .data, .data, .data, .sentinel, .sentinel, .data, .pinned], laidTests := true, laidLooks := .later }
def LevelStartsCardSaid : Prop := Claim7.holds Tryz.pinned (.plain (OpenSpec.ofChange levelStartsSpec)) levelStartsCard

/-- THE TIED CARD OF 'kingpostlaw17.LevelSteady'. -/
def levelSteadyCard : Claim7 := { stood := { row := levelSteadyRow, standIns := [], harness := (true, "f84f07e63380a985283d52b50418ff6233dea90d67919f022a869fc0020f0574"), looks := true }, kinds := [], alts := [], laidByText := true, laidKinds := [.data, .data, .data, .data, .sentinel, .sentinel, .data, .pinned], laidTests := true, laidLooks := .later }
def LevelSteadyCardSaid : Prop := Claim7.holds Tryz.pinned (.plain (OpenSpec.ofChange levelSteadySpec)) levelSteadyCard

/-- THE TIED CARD OF 'kingpostlaw17.LevelReasons'. -/
def levelReasonsCard : Claim7 := { stood := { row := levelReasonsRow, standIns := [], harness := (true, "f84f07e63380a985283d52b50418ff6233dea90d67919f022a869fc0020f0574"), looks := true }, kinds := [], alts := [], laidByText := true, laidKinds := [.data, .data, .data, .data, .sentinel, .sentinel, .data, .pinned], laidTests := true, laidLooks := .later }
def LevelReasonsCardSaid : Prop := Claim7.holds Tryz.pinned (.plain (OpenSpec.ofChange levelReasonsSpec)) levelReasonsCard

/-- THE TIED CARD OF 'kingpostlaw17.LevelNext'. -/
def levelNextCard : Claim7 := { stood := { row := levelNextRow, standIns := [], harness := (true, "f84f07e63380a985283d52b50418ff6233dea90d67919f022a869fc0020f0574"), looks := true }, kinds := [], alts := [], laidByText := true, laidKinds := [.data, .data, .data, .data, .sentinel, .sentinel, .data, .pinned], laidTests := true, laidLooks := .later }
def LevelNextCardSaid : Prop := Claim7.holds Tryz.pinned (.plain (OpenSpec.ofChange levelNextSpec)) levelNextCard

/-- THE TIED CARD OF 'kingpostlaw17.LevelRaises'. -/
def levelRaisesCard : Claim7 := { stood := { row := levelRaisesRow, standIns := [], harness := (true, "f84f07e63380a985283d52b50418ff6233dea90d67919f022a869fc0020f0574"), looks := true }, kinds := [], alts := [], laidByText := true, laidKinds := [.data, .data, .data, .data, .sentinel, .sentinel, .data, .pinned], laidTests := true, laidLooks := .later }
def LevelRaisesCardSaid : Prop := Claim7.holds Tryz.pinned (.plain (OpenSpec.ofChange levelRaisesSpec)) levelRaisesCard

/-- THE TIED CARD OF 'kingpostlaw17.LevelMoves'. -/
def levelMovesCard : Claim7 := { stood := { row := levelMovesRow, standIns := [], harness := (true, "f84f07e63380a985283d52b50418ff6233dea90d67919f022a869fc0020f0574"), looks := true }, kinds := [], alts := [], laidByText := true, laidKinds := [.data, .data, .data, .data, .sentinel, .sentinel, .data, .pinned], laidTests := true, laidLooks := .later }
def LevelMovesCardSaid : Prop := Claim7.holds Tryz.pinned (.plain (OpenSpec.ofChange levelMovesSpec)) levelMovesCard

/-- THE SECOND FORM's CARD OF 'kingpostlaw16.FrontCorners'. -/
def frontCornersUptoCard : Claim7 := { stood := { row := frontCornersUptoRow, standIns := [], harness := (true, "f84f07e63380a985283d52b50418ff6233dea90d67919f022a869fc0020f0574"), looks := true }, kinds := [], alts := [], laidByText := true, laidKinds := [.data, .data, .data, .data, .sentinel, .sentinel, .data, .pinned], laidTests := true, laidLooks := .later }
def FrontCornersUptoCardSaid : Prop := Claim7.holds Tryz.pinned (.plain (OpenSpec.upto frontCornersSpec)) frontCornersUptoCard

/-- THE SECOND FORM's CARD OF 'kingpostlaw16.FrontInside'. -/
def frontInsideUptoCard : Claim7 := { stood := { row := frontInsideUptoRow, standIns := [], harness := (true, "f84f07e63380a985283d52b50418ff6233dea90d67919f022a869fc0020f0574"), looks := true }, kinds := [], alts := [], laidByText := true, laidKinds := [.data, .data, .data, .data, .sentinel, .sentinel, .data, .pinned], laidTests := true, laidLooks := .later }
def FrontInsideUptoCardSaid : Prop := Claim7.holds Tryz.pinned (.plain (OpenSpec.upto frontInsideSpec)) frontInsideUptoCard

/-- THE SECOND FORM's CARD OF 'kingpostlaw17.LevelStarts'. -/
def levelStartsUptoCard : Claim7 := { stood := { row := levelStartsUptoRow, standIns := [], harness := (true, "f84f07e63380a985283d52b50418ff6233dea90d67919f022a869fc0020f0574"), looks := true }, kinds := [], alts := [], laidByText := true, laidKinds := [.data, .data, .data, .data, .sentinel, .sentinel, .data, .pinned], laidTests := true, laidLooks := .later }
def LevelStartsUptoCardSaid : Prop := Claim7.holds Tryz.pinned (.plain (OpenSpec.upto levelStartsSpec)) levelStartsUptoCard

/-- THE SECOND FORM's CARD OF 'kingpostlaw17.LevelSteady'. -/
def levelSteadyUptoCard : Claim7 := { stood := { row := levelSteadyUptoRow, standIns := [], harness := (true, "f84f07e63380a985283d52b50418ff6233dea90d67919f022a869fc0020f0574"), looks := true }, kinds := [], alts := [], laidByText := true, laidKinds := [.data, .data, .data, .data, .sentinel, .sentinel, .data, .pinned], laidTests := true, laidLooks := .later }
def LevelSteadyUptoCardSaid : Prop := Claim7.holds Tryz.pinned (.plain (OpenSpec.upto levelSteadySpec)) levelSteadyUptoCard

/-- THE SECOND FORM's CARD OF 'kingpostlaw17.LevelReasons'. -/
def levelReasonsUptoCard : Claim7 := { stood := { row := levelReasonsUptoRow, standIns := [], harness := (true, "f84f07e63380a985283d52b50418ff6233dea90d67919f022a869fc0020f0574"), looks := true }, kinds := [], alts := [], laidByText := true, laidKinds := [.data, .data, .data, .data, .sentinel, .sentinel, .data, .pinned], laidTests := true, laidLooks := .later }
def LevelReasonsUptoCardSaid : Prop := Claim7.holds Tryz.pinned (.plain (OpenSpec.upto levelReasonsSpec)) levelReasonsUptoCard

/-- THE SECOND FORM's CARD OF 'kingpostlaw17.LevelNext'. -/
def levelNextUptoCard : Claim7 := { stood := { row := levelNextUptoRow, standIns := [], harness := (true, "f84f07e63380a985283d52b50418ff6233dea90d67919f022a869fc0020f0574"), looks := true }, kinds := [], alts := [], laidByText := true, laidKinds := [.data, .data, .data, .data, .sentinel, .sentinel, .data, .pinned], laidTests := true, laidLooks := .later }
def LevelNextUptoCardSaid : Prop := Claim7.holds Tryz.pinned (.plain (OpenSpec.upto levelNextSpec)) levelNextUptoCard

/-- THE SECOND FORM's CARD OF 'kingpostlaw17.LevelRaises'. -/
def levelRaisesUptoCard : Claim7 := { stood := { row := levelRaisesUptoRow, standIns := [], harness := (true, "f84f07e63380a985283d52b50418ff6233dea90d67919f022a869fc0020f0574"), looks := true }, kinds := [], alts := [], laidByText := true, laidKinds := [.data, .data, .data, .data, .sentinel, .sentinel, .data, .pinned], laidTests := true, laidLooks := .later }
def LevelRaisesUptoCardSaid : Prop := Claim7.holds Tryz.pinned (.plain (OpenSpec.upto levelRaisesSpec)) levelRaisesUptoCard

/-- THE SECOND FORM's CARD OF 'kingpostlaw17.LevelMoves'. -/
def levelMovesUptoCard : Claim7 := { stood := { row := levelMovesUptoRow, standIns := [], harness := (true, "f84f07e63380a985283d52b50418ff6233dea90d67919f022a869fc0020f0574"), looks := true }, kinds := [], alts := [], laidByText := true, laidKinds := [.data, .data, .data, .data, .sentinel, .sentinel, .data, .pinned], laidTests := true, laidLooks := .later }
def LevelMovesUptoCardSaid : Prop := Claim7.holds Tryz.pinned (.plain (OpenSpec.upto levelMovesSpec)) levelMovesUptoCard
end Rows
end Go.Proofs.YtlagebbefnnnnaaGreatDoor
