/-
  DERIVED. GIVEN WITH THE SEED: THE CARDS: each row of YtmblgcglonikiaaGreatDoorRows.lean that lists a variable, with what it lists TIED to the program's text (the seventh form; the later family's looks); each row that meets fmt, with fmt's text TOLD by the authors' own Lean function (tested against real Go, not proved from fmt's source: count such statements apart). THE CARD IS WHAT COUNTS. Prove the row's statement (the work); the ties are given (YtmblgcglonikiaaGreatDoorTie.lean); close each card by the builder's one call (the guide's Derived/Test/ToyasCard.lean, 'card_holds'). Laid BY PROGRAM, IN A SANDBOX (cutbox-door.mjs). By AI agents, Wed Nov 11 2026. No macro, syntax, notation, axiom, sorry.
-/
import Derived.Test.YtmblgcglonikiaaGreatDoorRows
import GoSem.ClaimSeven
namespace Go.Proofs.YtmblgcglonikiaaGreatDoor
namespace Rows

/-- THE TIED CARD OF 'kingpostlaw17.LevelLists'. -/
def levelListsCard : Claim7 := { stood := { row := levelListsRow, standIns := [], harness := (true, "3f12569f59ab0f8d3d0a469b22b9154d8120a3e6720fc8af784cdc5eb9061fca"), looks := true }, kinds := [], alts := [], laidByText := true, laidKinds := [.data, .data, .data, .data, .sentinel, .sentinel, .data, .pinned], laidTests := true, laidLooks := .later }
def LevelListsCardSaid : Prop := Claim7.holds Tryz.pinned (.plain (OpenSpec.ofChange levelListsSpec)) levelListsCard

/-- THE TIED CARD OF 'kingpostlaw17.LevelOrders'. -/
def levelOrdersCard : Claim7 := { stood := { row := levelOrdersRow, standIns := [], harness := (true, "3f12569f59ab0f8d3d0a469b22b9154d8120a3e6720fc8af784cdc5eb9061fca"), looks := true }, kinds := [], alts := [], laidByText := true, laidKinds := [.data, .data, .data, .data, .sentinel, .sentinel, .data, .pinned], laidTests := true, laidLooks := .later }
def LevelOrdersCardSaid : Prop := Claim7.holds Tryz.pinned (.plain (OpenSpec.ofChange levelOrdersSpec)) levelOrdersCard

/-- THE TIED CARD OF 'kingpostlaw16.FrontMoves'. -/
def frontMovesCard : Claim7 := { stood := { row := frontMovesRow, standIns := [], harness := (true, "3f12569f59ab0f8d3d0a469b22b9154d8120a3e6720fc8af784cdc5eb9061fca"), looks := true }, kinds := [], alts := [], laidByText := true, laidKinds := [.data, .data, .data, .data, .sentinel, .sentinel, .pinned], laidTests := true, laidLooks := .later }
def FrontMovesCardSaid : Prop := Claim7.holds Tryz.pinned (.plain (OpenSpec.ofChange frontMovesSpec)) frontMovesCard

/-- THE TIED CARD OF 'kingpostlaw16.FrontPlans'. -/
def frontPlansCard : Claim7 := { stood := { row := frontPlansRow, standIns := [], harness := (true, "3f12569f59ab0f8d3d0a469b22b9154d8120a3e6720fc8af784cdc5eb9061fca"), looks := true }, kinds := [], alts := [], laidByText := true, laidKinds := [.data, .data, .data, .data, .sentinel, .sentinel, .data, .pinned], laidTests := true, laidLooks := .later }
def FrontPlansCardSaid : Prop := Claim7.holds Tryz.pinned (.plain (OpenSpec.ofChange frontPlansSpec)) frontPlansCard

/-- THE SECOND FORM's CARD OF 'kingpostlaw17.LevelLists'. -/
def levelListsUptoCard : Claim7 := { stood := { row := levelListsUptoRow, standIns := [], harness := (true, "3f12569f59ab0f8d3d0a469b22b9154d8120a3e6720fc8af784cdc5eb9061fca"), looks := true }, kinds := [], alts := [], laidByText := true, laidKinds := [.data, .data, .data, .data, .sentinel, .sentinel, .data, .pinned], laidTests := true, laidLooks := .later }
def LevelListsUptoCardSaid : Prop := Claim7.holds Tryz.pinned (.plain (OpenSpec.upto levelListsSpec)) levelListsUptoCard

/-- THE SECOND FORM's CARD OF 'kingpostlaw17.LevelOrders'. -/
def levelOrdersUptoCard : Claim7 := { stood := { row := levelOrdersUptoRow, standIns := [], harness := (true, "3f12569f59ab0f8d3d0a469b22b9154d8120a3e6720fc8af784cdc5eb9061fca"), looks := true }, kinds := [], alts := [], laidByText := true, laidKinds := [.data, .data, .data, .data, .sentinel, .sentinel, .data, .pinned], laidTests := true, laidLooks := .later }
def LevelOrdersUptoCardSaid : Prop := Claim7.holds Tryz.pinned (.plain (OpenSpec.upto levelOrdersSpec)) levelOrdersUptoCard

/-- THE SECOND FORM's CARD OF 'kingpostlaw16.FrontMoves'. -/
def frontMovesUptoCard : Claim7 := { stood := { row := frontMovesUptoRow, standIns := [], harness := (true, "3f12569f59ab0f8d3d0a469b22b9154d8120a3e6720fc8af784cdc5eb9061fca"), looks := true }, kinds := [], alts := [], laidByText := true, laidKinds := [.data, .data, .data, .data, .sentinel, .sentinel, .pinned], laidTests := true, laidLooks := .later }
def FrontMovesUptoCardSaid : Prop := Claim7.holds Tryz.pinned (.plain (OpenSpec.upto frontMovesSpec)) frontMovesUptoCard

/-- THE SECOND FORM's CARD OF 'kingpostlaw16.FrontPlans'. -/
def frontPlansUptoCard : Claim7 := { stood := { row := frontPlansUptoRow, standIns := [], harness := (true, "3f12569f59ab0f8d3d0a469b22b9154d8120a3e6720fc8af784cdc5eb9061fca"), looks := true }, kinds := [], alts := [], laidByText := true, laidKinds := [.data, .data, .data, .data, .sentinel, .sentinel, .data, .pinned], laidTests := true, laidLooks := .later }
def FrontPlansUptoCardSaid : Prop := Claim7.holds Tryz.pinned (.plain (OpenSpec.upto frontPlansSpec)) frontPlansUptoCard
end Rows
end Go.Proofs.YtmblgcglonikiaaGreatDoor
