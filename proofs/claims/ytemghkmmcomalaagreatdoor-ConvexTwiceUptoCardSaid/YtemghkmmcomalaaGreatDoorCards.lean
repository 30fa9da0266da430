/-
  DERIVED. GIVEN WITH THE SEED: THE CARDS: each row of YtemghkmmcomalaaGreatDoorRows.lean that lists a variable, with what it lists TIED to the program's text (the seventh form; the later family's looks); each row that meets fmt, with fmt's text TOLD by the authors' own Lean function (tested against real Go, not proved from fmt's source: count such statements apart). THE CARD IS WHAT COUNTS. Prove the row's statement (the work); the ties are given (YtemghkmmcomalaaGreatDoorTie.lean); close each card by the builder's one call (the guide's Derived/Test/ToyasCard.lean, 'card_holds'). Laid BY PROGRAM, IN A SANDBOX (cutbox-door.mjs). By AI agents, Wed Nov 11 2026. No macro, syntax, notation, axiom, sorry.
-/
import Derived.Test.YtemghkmmcomalaaGreatDoorRows
import GoSem.ClaimSeven
namespace Go.Proofs.YtemghkmmcomalaaGreatDoor
namespace Rows

/-- THE TIED CARD OF 'kingpostlaw52.BeamForces'. -/
def beamForcesCard : Claim7 := { stood := { row := beamForcesRow, standIns := [], harness := (true, "06fffe03b25febf21f928f061973b3f0969f629376e670cd465570f3a677316c"), looks := true }, kinds := [], alts := [], laidByText := true, laidKinds := [.data, .data, .data, .data, .sentinel, .sentinel, .pinned], laidTests := true, laidLooks := .later }
def BeamForcesCardSaid : Prop := Claim7.holds Tryz.pinned (.plain (OpenSpec.ofChange beamForcesSpec)) beamForcesCard

/-- THE TIED CARD OF 'kingpostlaw13.ConvexTwice'. -/
def convexTwiceCard : Claim7 := { stood := { row := convexTwiceRow, standIns := [], harness := (true, "06fffe03b25febf21f928f061973b3f0969f629376e670cd465570f3a677316c"), looks := true }, kinds := [], alts := [], laidByText := true, laidKinds := [.data, .data, .data, .data, .sentinel, .sentinel, .pinned], laidTests := true, laidLooks := .later }
def ConvexTwiceCardSaid : Prop := Claim7.holds Tryz.pinned (.plain (OpenSpec.ofChange convexTwiceSpec)) convexTwiceCard

/-- THE TIED CARD OF 'kingpostlaw13.ConvexMeets'. -/
def convexMeetsCard : Claim7 := { stood := { row := convexMeetsRow, standIns := [], harness := (true, "06fffe03b25febf21f928f061973b3f0969f629376e670cd465570f3a677316c"), looks := true }, kinds := [], alts := [], laidByText := true, laidKinds := [.data, .data, .data, .data, .sentinel, .sentinel, .pinned], laidTests := true, laidLooks := .later }
def ConvexMeetsCardSaid : Prop := Claim7.holds Tryz.pinned (.plain (OpenSpec.ofChange convexMeetsSpec)) convexMeetsCard

/-- THE TIED CARD OF 'kingpostlaw13.ConvexDivided'. -/
def convexDividedCard : Claim7 := { stood := { row := convexDividedRow, standIns := [], harness := (true, "06fffe03b25febf21f928f061973b3f0969f629376e670cd465570f3a677316c"), looks := true }, kinds := [], alts := [], laidByText := true, laidKinds := [.data, .data, .data, .data, .sentinel, .sentinel, .pinned], laidTests := true, laidLooks := .later }
def ConvexDividedCardSaid : Prop := Claim7.holds Tryz.pinned (.plain (OpenSpec.ofChange convexDividedSpec)) convexDividedCard

/-- THE SECOND FORM's CARD OF 'kingpostlaw52.BeamForces'. -/
def beamForcesUptoCard : Claim7 := { stood := { row := beamForcesUptoRow, standIns := [], harness := (true, "06fffe03b25febf21f928f061973b3f0969f629376e670cd465570f3a677316c"), looks := true }, kinds := [], alts := [], laidByText := true, laidKinds := [.data, .data, .data, .data, .sentinel, .sentinel, .pinned], laidTests := true, laidLooks := .later }
def BeamForcesUptoCardSaid : Prop := Claim7.holds Tryz.pinned (.plain (OpenSpec.upto beamForcesSpec)) beamForcesUptoCard

/-- THE SECOND FORM's CARD OF 'kingpostlaw13.ConvexTwice'. -/
def convexTwiceUptoCard : Claim7 := { stood := { row := convexTwiceUptoRow, standIns := [], harness := (true, "06fffe03b25febf21f928f061973b3f0969f629376e670cd465570f3a677316c"), looks := true }, kinds := [], alts := [], laidByText := true, laidKinds := [.data, .data, .data, .data, .sentinel, .sentinel, .pinned], laidTests := true, laidLooks := .later }
def ConvexTwiceUptoCardSaid : Prop := Claim7.holds Tryz.pinned (.plain (OpenSpec.upto convexTwiceSpec)) convexTwiceUptoCard

/-- THE SECOND FORM's CARD OF 'kingpostlaw13.ConvexMeets'. -/
def convexMeetsUptoCard : Claim7 := { stood := { row := convexMeetsUptoRow, standIns := [], harness := (true, "06fffe03b25febf21f928f061973b3f0969f629376e670cd465570f3a677316c"), looks := true }, kinds := [], alts := [], laidByText := true, laidKinds := [.data, .data, .data, .data, .sentinel, .sentinel, .pinned], laidTests := true, laidLooks := .later }
def ConvexMeetsUptoCardSaid : Prop := Claim7.holds Tryz.pinned (.plain (OpenSpec.upto convexMeetsSpec)) convexMeetsUptoCard

/-- THE SECOND FORM's CARD OF 'kingpostlaw13.ConvexDivided'. -/
def convexDividedUptoCard : Claim7 := { stood := { row := convexDividedUptoRow, standIns := [], harness := (true, "06fffe03b25febf21f928f061973b3f0969f629376e670cd465570f3a677316c"), looks := true }, kinds := [], alts := [], laidByText := true, laidKinds := [.data, .data, .data, .data, .sentinel, .sentinel, .pinned], laidTests := true, laidLooks := .later }
def ConvexDividedUptoCardSaid : Prop := Claim7.holds Tryz.pinned (.plain (OpenSpec.upto convexDividedSpec)) convexDividedUptoCard
end Rows
end Go.Proofs.YtemghkmmcomalaaGreatDoor
