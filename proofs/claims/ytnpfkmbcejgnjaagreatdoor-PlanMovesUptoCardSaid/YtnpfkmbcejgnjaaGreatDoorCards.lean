/-
  DERIVED. GIVEN WITH THE SEED: THE CARDS: each row of YtnpfkmbcejgnjaaGreatDoorRows.lean that lists a variable, with what it lists TIED to the program's text (the seventh form; the later family's looks); each row that meets fmt, with fmt's text TOLD by the authors' own Lean function (tested against real Go, not proved from fmt's source: count such statements apart). THE CARD IS WHAT COUNTS. Prove the row's statement (the work); the ties are given (YtnpfkmbcejgnjaaGreatDoorTie.lean); close each card by the builder's one call (the guide's Derived/Test/ToyasCard.lean, 'card_holds'). Laid BY PROGRAM, IN A SANDBOX (cutbox-door.mjs). By AI agents, Wed Nov 11 2026. No macro, syntax, notation, axiom, sorry.
-/
import Derived.Test.YtnpfkmbcejgnjaaGreatDoorRows
import GoSem.ClaimSeven
namespace Go.Proofs.YtnpfkmbcejgnjaaGreatDoor
namespace Rows

/-- THE TIED CARD OF 'kingpostlaw11.PlanTurns'. -/
def planTurnsCard : Claim7 := { stood := { row := planTurnsRow, standIns := [], harness := (true, "f6d07a6e7a54a49814d59fd8c9fd5c5deee579eba22b43ed72188917968db566"), looks := true }, kinds := [], alts := [], laidByText := true, laidKinds := [.data, .data, .data, .data, .sentinel, .sentinel, .pinned], laidTests := true, laidLooks := .later }
def PlanTurnsCardSaid : Prop := Claim7.holds Tryz.pinned (.plain (OpenSpec.ofChange planTurnsSpec)) planTurnsCard

/-- THE TIED CARD OF 'kingpostlaw11.PlanChecks'. -/
def planChecksCard : Claim7 := { stood := { row := planChecksRow, standIns := [], harness := (true, "f6d07a6e7a54a49814d59fd8c9fd5c5deee579eba22b43ed72188917968db566"), looks := true }, kinds := [], alts := [], laidByText := true, laidKinds := [.data, .data, .data, .data, .sentinel, .sentinel, .pinned], laidTests := true, laidLooks := .later }
def PlanChecksCardSaid : Prop := Claim7.holds Tryz.pinned (.plain (OpenSpec.ofChange planChecksSpec)) planChecksCard

/-- THE TIED CARD OF 'kingpostlaw11.PlanShifts'. -/
def planShiftsCard : Claim7 := { stood := { row := planShiftsRow, standIns := [], harness := (true, "f6d07a6e7a54a49814d59fd8c9fd5c5deee579eba22b43ed72188917968db566"), looks := true }, kinds := [], alts := [], laidByText := true, laidKinds := [.data, .data, .data, .data, .sentinel, .sentinel, .pinned], laidTests := true, laidLooks := .later }
def PlanShiftsCardSaid : Prop := Claim7.holds Tryz.pinned (.plain (OpenSpec.ofChange planShiftsSpec)) planShiftsCard

/-- THE TIED CARD OF 'kingpostlaw11.PlanRotates'. -/
def planRotatesCard : Claim7 := { stood := { row := planRotatesRow, standIns := [], harness := (true, "f6d07a6e7a54a49814d59fd8c9fd5c5deee579eba22b43ed72188917968db566"), looks := true }, kinds := [], alts := [], laidByText := true, laidKinds := [.data, .data, .data, .data, .sentinel, .sentinel, .pinned], laidTests := true, laidLooks := .later }
def PlanRotatesCardSaid : Prop := Claim7.holds Tryz.pinned (.plain (OpenSpec.ofChange planRotatesSpec)) planRotatesCard

/-- THE TIED CARD OF 'kingpostlaw11.PlanRefused'. -/
def planRefusedCard : Claim7 := { stood := { row := planRefusedRow, standIns := [], harness := (true, "f6d07a6e7a54a49814d59fd8c9fd5c5deee579eba22b43ed72188917968db566"), looks := true }, kinds := [], alts := [], laidByText := true, laidKinds := [.data, .data, .data, .data, .sentinel, .sentinel, .pinned], laidTests := true, laidLooks := .later }
def PlanRefusedCardSaid : Prop := Claim7.holds Tryz.pinned (.plain (OpenSpec.ofChange planRefusedSpec)) planRefusedCard

/-- THE TIED CARD OF 'kingpostlaw11.PlanTexts'. -/
def planTextsCard : Claim7 := { stood := { row := planTextsRow, standIns := [], harness := (true, "f6d07a6e7a54a49814d59fd8c9fd5c5deee579eba22b43ed72188917968db566"), looks := true }, kinds := [], alts := [], laidByText := true, laidKinds := [.data, .data, .data, .data, .sentinel, .sentinel, .pinned], laidTests := true, laidLooks := .later }
def PlanTextsCardSaid : Prop := Claim7.holds Tryz.pinned (.plain (OpenSpec.ofChange planTextsSpec)) planTextsCard

/-- THE TIED CARD OF 'kingpostlaw11.PlanArea'. -/
def planAreaCard : Claim7 := { stood := { row := planAreaRow, standIns := [], harness := (true, "f6d07a6e7a54a49814d59fd8c9fd5c5deee579eba22b43ed72188917968db566"), looks := true }, kinds := [], alts := [], laidByText := true, laidKinds := [.data, .data, .data, .data, .sentinel, .sentinel, .pinned], laidTests := true, laidLooks := .later }
def PlanAreaCardSaid : Prop := Claim7.holds Tryz.pinned (.plain (OpenSpec.ofChange planAreaSpec)) planAreaCard

/-- THE TIED CARD OF 'kingpostlaw11.PlanCanonical'. -/
def planCanonicalCard : Claim7 := { stood := { row := planCanonicalRow, standIns := [], harness := (true, "f6d07a6e7a54a49814d59fd8c9fd5c5deee579eba22b43ed72188917968db566"), looks := true }, kinds := [], alts := [], laidByText := true, laidKinds := [.data, .data, .data, .data, .sentinel, .sentinel, .pinned], laidTests := true, laidLooks := .later }
def PlanCanonicalCardSaid : Prop := Claim7.holds Tryz.pinned (.plain (OpenSpec.ofChange planCanonicalSpec)) planCanonicalCard

/-- THE TIED CARD OF 'kingpostlaw11.PlanMoves'. -/
def planMovesCard : Claim7 := { stood := { row := planMovesRow, standIns := [], harness := (true, "f6d07a6e7a54a49814d59fd8c9fd5c5deee579eba22b43ed72188917968db566"), looks := true }, kinds := [], alts := [], laidByText := true, laidKinds := [.data, .data, .data, .data, .sentinel, .sentinel, .pinned], laidTests := true, laidLooks := .later }
def PlanMovesCardSaid : Prop := Claim7.holds Tryz.pinned (.plain (OpenSpec.ofChange planMovesSpec)) planMovesCard

/-- THE SECOND FORM's CARD OF 'kingpostlaw11.PlanTurns'. -/
def planTurnsUptoCard : Claim7 := { stood := { row := planTurnsUptoRow, standIns := [], harness := (true, "f6d07a6e7a54a49814d59fd8c9fd5c5deee579eba22b43ed72188917968db566"), looks := true }, kinds := [], alts := [], laidByText := true, laidKinds := [.data, .data, .data, .data, .sentinel, .sentinel, .pinned], laidTests := true, laidLooks := .later }
def PlanTurnsUptoCardSaid : Prop := Claim7.holds Tryz.pinned (.plain (OpenSpec.upto planTurnsSpec)) planTurnsUptoCard

/-- THE SECOND FORM's CARD OF 'kingpostlaw11.PlanChecks'. -/
def planChecksUptoCard : Claim7 := { stood := { row := planChecksUptoRow, standIns := [], harness := (true, "f6d07a6e7a54a49814d59fd8c9fd5c5deee579eba22b43ed72188917968db566"), looks := true }, kinds := [], alts := [], laidByText := true, laidKinds := [.data, .data, .data, .data, .sentinel, .sentinel, .pinned], laidTests := true, laidLooks := .later }
def PlanChecksUptoCardSaid : Prop := Claim7.holds Tryz.pinned (.plain (OpenSpec.upto planChecksSpec)) planChecksUptoCard

/-- THE SECOND FORM's CARD OF 'kingpostlaw11.PlanShifts'. -/
def planShiftsUptoCard : Claim7 := { stood := { row := planShiftsUptoRow, standIns := [], harness := (true, "f6d07a6e7a54a49814d59fd8c9fd5c5deee579eba22b43ed72188917968db566"), looks := true }, kinds := [], alts := [], laidByText := true, laidKinds := [.data, .data, .data, .data, .sentinel, .sentinel, .pinned], laidTests := true, laidLooks := .later }
def PlanShiftsUptoCardSaid : Prop := Claim7.holds Tryz.pinned (.plain (OpenSpec.upto planShiftsSpec)) planShiftsUptoCard

/-- THE SECOND FORM's CARD OF 'kingpostlaw11.PlanRotates'. -/
def planRotatesUptoCard : Claim7 := { stood := { row := planRotatesUptoRow, standIns := [], harness := (true, "f6d07a6e7a54a49814d59fd8c9fd5c5deee579eba22b43ed72188917968db566"), looks := true }, kinds := [], alts := [], laidByText := true, laidKinds := [.data, .data, .data, .data, .sentinel, .sentinel, .pinned], laidTests := true, laidLooks := .later }
def PlanRotatesUptoCardSaid : Prop := Claim7.holds Tryz.pinned (.plain (OpenSpec.upto planRotatesSpec)) planRotatesUptoCard

/-- THE SECOND FORM's CARD OF 'kingpostlaw11.PlanRefused'. -/
def planRefusedUptoCard : Claim7 := { stood := { row := planRefusedUptoRow, standIns := [], harness := (true, "f6d07a6e7a54a49814d59fd8c9fd5c5deee579eba22b43ed72188917968db566"), looks := true }, kinds := [], alts := [], laidByText := true, laidKinds := [.data, .data, .data, .data, .sentinel, .sentinel, .pinned], laidTests := true, laidLooks := .later }
def PlanRefusedUptoCardSaid : Prop := Claim7.holds Tryz.pinned (.plain (OpenSpec.upto planRefusedSpec)) planRefusedUptoCard

/-- THE SECOND FORM's CARD OF 'kingpostlaw11.PlanTexts'. -/
def planTextsUptoCard : Claim7 := { stood := { row := planTextsUptoRow, standIns := [], harness := (true, "f6d07a6e7a54a49814d59fd8c9fd5c5deee579eba22b43ed72188917968db566"), looks := true }, kinds := [], alts := [], laidByText := true, laidKinds := [.data, .data, .data, .data, .sentinel, .sentinel, .pinned], laidTests := true, laidLooks := .later }
def PlanTextsUptoCardSaid : Prop := Claim7.holds Tryz.pinned (.plain (OpenSpec.upto planTextsSpec)) planTextsUptoCard

/-- THE SECOND FORM's CARD OF 'kingpostlaw11.PlanArea'. -/
def planAreaUptoCard : Claim7 := { stood := { row := planAreaUptoRow, standIns := [], harness := (true, "f6d07a6e7a54a49814d59fd8c9fd5c5deee579eba22b43ed72188917968db566"), looks := true }, kinds := [], alts := [], laidByText := true, laidKinds := [.data, .data, .data, .data, .sentinel, .sentinel, .pinned], laidTests := true, laidLooks := .later }
def PlanAreaUptoCardSaid : Prop := Claim7.holds Tryz.pinned (.plain (OpenSpec.upto planAreaSpec)) planAreaUptoCard

/-- THE SECOND FORM's CARD OF 'kingpostlaw11.PlanCanonical'. -/
def planCanonicalUptoCard : Claim7 := { stood := { row := planCanonicalUptoRow, standIns := [], harness := (true, "f6d07a6e7a54a49814d59fd8c9fd5c5deee579eba22b43ed72188917968db566"), looks := true }, kinds := [], alts := [], laidByText := true, laidKinds := [.data, .data, .data, .data, .sentinel, .sentinel, .pinned], laidTests := true, laidLooks := .later }
def PlanCanonicalUptoCardSaid : Prop := Claim7.holds Tryz.pinned (.plain (OpenSpec.upto planCanonicalSpec)) planCanonicalUptoCard

/-- THE SECOND FORM's CARD OF 'kingpostlaw11.PlanMoves'. -/
def planMovesUptoCard : Claim7 := { stood := { row := planMovesUptoRow, standIns := [], harness := (true, "f6d07a6e7a54a49814d59fd8c9fd5c5deee579eba22b43ed72188917968db566"), looks := true }, kinds := [], alts := [], laidByText := true, laidKinds := [.data, .data, .data, .data, .sentinel, .sentinel, .pinned], laidTests := true, laidLooks := .later }
def PlanMovesUptoCardSaid : Prop := Claim7.holds Tryz.pinned (.plain (OpenSpec.upto planMovesSpec)) planMovesUptoCard
end Rows
end Go.Proofs.YtnpfkmbcejgnjaaGreatDoor
