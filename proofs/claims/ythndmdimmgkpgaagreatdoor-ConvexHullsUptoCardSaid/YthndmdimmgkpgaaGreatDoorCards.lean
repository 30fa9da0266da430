/-
  DERIVED. GIVEN WITH THE SEED: THE CARDS: each row of YthndmdimmgkpgaaGreatDoorRows.lean that lists a variable, with what it lists TIED to the program's text (the seventh form; the later family's looks); each row that meets fmt, with fmt's text TOLD by the authors' own Lean function (tested against real Go, not proved from fmt's source: count such statements apart). THE CARD IS WHAT COUNTS. Prove the row's statement (the work); the ties are given (YthndmdimmgkpgaaGreatDoorTie.lean); close each card by the builder's one call (the guide's Derived/Test/ToyasCard.lean, 'card_holds'). Laid BY PROGRAM, IN A SANDBOX (cutbox-door.mjs). By AI agents, Wed Nov 11 2026. No macro, syntax, notation, axiom, sorry.
-/
import Derived.Test.YthndmdimmgkpgaaGreatDoorRows
import GoSem.ClaimSeven
namespace Go.Proofs.YthndmdimmgkpgaaGreatDoor
namespace Rows

/-- THE TIED CARD OF 'kingpostlaw13.ConvexDivided'. -/
def convexDividedCard : Claim7 := { stood := { row := convexDividedRow, standIns := [], harness := (true, "3686b9202d8053053a66e73b2e90c84d4155f02bb31940e327b3d32878c0ba1e"), looks := true }, kinds := [], alts := [], laidByText := true, laidKinds := [.data, .data, .data, .data, .sentinel, .sentinel, .pinned], laidTests := true, laidLooks := .later }
def ConvexDividedCardSaid : Prop := Claim7.holds Tryz.pinned (.plain (OpenSpec.ofChange convexDividedSpec)) convexDividedCard

/-- THE TIED CARD OF 'kingpostlaw13.ConvexMeets'. -/
def convexMeetsCard : Claim7 := { stood := { row := convexMeetsRow, standIns := [], harness := (true, "3686b9202d8053053a66e73b2e90c84d4155f02bb31940e327b3d32878c0ba1e"), looks := true }, kinds := [], alts := [], laidByText := true, laidKinds := [.data, .data, .data, .data, .sentinel, .sentinel, .pinned], laidTests := true, laidLooks := .later }
def ConvexMeetsCardSaid : Prop := Claim7.holds Tryz.pinned (.plain (OpenSpec.ofChange convexMeetsSpec)) convexMeetsCard

/-- THE TIED CARD OF 'kingpostlaw13.ConvexSections'. -/
def convexSectionsCard : Claim7 := { stood := { row := convexSectionsRow, standIns := [], harness := (true, "3686b9202d8053053a66e73b2e90c84d4155f02bb31940e327b3d32878c0ba1e"), looks := true }, kinds := [], alts := [], laidByText := true, laidKinds := [.data, .data, .data, .data, .sentinel, .sentinel, .pinned], laidTests := true, laidLooks := .later }
def ConvexSectionsCardSaid : Prop := Claim7.holds Tryz.pinned (.plain (OpenSpec.ofChange convexSectionsSpec)) convexSectionsCard

/-- THE TIED CARD OF 'kingpostlaw13.ConvexHulls'. -/
def convexHullsCard : Claim7 := { stood := { row := convexHullsRow, standIns := [], harness := (true, "3686b9202d8053053a66e73b2e90c84d4155f02bb31940e327b3d32878c0ba1e"), looks := true }, kinds := [], alts := [], laidByText := true, laidKinds := [.data, .data, .data, .data, .sentinel, .sentinel, .pinned], laidTests := true, laidLooks := .later }
def ConvexHullsCardSaid : Prop := Claim7.holds Tryz.pinned (.plain (OpenSpec.ofChange convexHullsSpec)) convexHullsCard

/-- THE TIED CARD OF 'kingpostlaw13.ConvexMeasures'. -/
def convexMeasuresCard : Claim7 := { stood := { row := convexMeasuresRow, standIns := [], harness := (true, "3686b9202d8053053a66e73b2e90c84d4155f02bb31940e327b3d32878c0ba1e"), looks := true }, kinds := [], alts := [], laidByText := true, laidKinds := [.data, .data, .data, .data, .sentinel, .sentinel, .pinned], laidTests := true, laidLooks := .later }
def ConvexMeasuresCardSaid : Prop := Claim7.holds Tryz.pinned (.plain (OpenSpec.ofChange convexMeasuresSpec)) convexMeasuresCard

/-- THE TIED CARD OF 'kingpostlaw13.ConvexMass'. -/
def convexMassCard : Claim7 := { stood := { row := convexMassRow, standIns := [], harness := (true, "3686b9202d8053053a66e73b2e90c84d4155f02bb31940e327b3d32878c0ba1e"), looks := true }, kinds := [], alts := [], laidByText := true, laidKinds := [.data, .data, .data, .data, .sentinel, .sentinel, .pinned], laidTests := true, laidLooks := .later }
def ConvexMassCardSaid : Prop := Claim7.holds Tryz.pinned (.plain (OpenSpec.ofChange convexMassSpec)) convexMassCard

/-- THE SECOND FORM's CARD OF 'kingpostlaw13.ConvexDivided'. -/
def convexDividedUptoCard : Claim7 := { stood := { row := convexDividedUptoRow, standIns := [], harness := (true, "3686b9202d8053053a66e73b2e90c84d4155f02bb31940e327b3d32878c0ba1e"), looks := true }, kinds := [], alts := [], laidByText := true, laidKinds := [.data, .data, .data, .data, .sentinel, .sentinel, .pinned], laidTests := true, laidLooks := .later }
def ConvexDividedUptoCardSaid : Prop := Claim7.holds Tryz.pinned (.plain (OpenSpec.upto convexDividedSpec)) convexDividedUptoCard

/-- THE SECOND FORM's CARD OF 'kingpostlaw13.ConvexMeets'. -/
def convexMeetsUptoCard : Claim7 := { stood := { row := convexMeetsUptoRow, standIns := [], harness := (true, "3686b9202d8053053a66e73b2e90c84d4155f02bb31940e327b3d32878c0ba1e"), looks := true }, kinds := [], alts := [], laidByText := true, laidKinds := [.data, .data, .data, .data, .sentinel, .sentinel, .pinned], laidTests := true, laidLooks := .later }
def ConvexMeetsUptoCardSaid : Prop := Claim7.holds Tryz.pinned (.plain (OpenSpec.upto convexMeetsSpec)) convexMeetsUptoCard

/-- THE SECOND FORM's CARD OF 'kingpostlaw13.ConvexSections'. -/
def convexSectionsUptoCard : Claim7 := { stood := { row := convexSectionsUptoRow, standIns := [], harness := (true, "3686b9202d8053053a66e73b2e90c84d4155f02bb31940e327b3d32878c0ba1e"), looks := true }, kinds := [], alts := [], laidByText := true, laidKinds := [.data, .data, .data, .data, .sentinel, .sentinel, .pinned], laidTests := true, laidLooks := .later }
def ConvexSectionsUptoCardSaid : Prop := Claim7.holds Tryz.pinned (.plain (OpenSpec.upto convexSectionsSpec)) convexSectionsUptoCard

/-- THE SECOND FORM's CARD OF 'kingpostlaw13.ConvexHulls'. -/
def convexHullsUptoCard : Claim7 := { stood := { row := convexHullsUptoRow, standIns := [], harness := (true, "3686b9202d8053053a66e73b2e90c84d4155f02bb31940e327b3d32878c0ba1e"), looks := true }, kinds := [], alts := [], laidByText := true, laidKinds := [.data, .data, .data, .data, .sentinel, .sentinel, .pinned], laidTests := true, laidLooks := .later }
def ConvexHullsUptoCardSaid : Prop := Claim7.holds Tryz.pinned (.plain (OpenSpec.upto convexHullsSpec)) convexHullsUptoCard

/-- THE SECOND FORM's CARD OF 'kingpostlaw13.ConvexMeasures'. -/
def convexMeasuresUptoCard : Claim7 := { stood := { row := convexMeasuresUptoRow, standIns := [], harness := (true, "3686b9202d8053053a66e73b2e90c84d4155f02bb31940e327b3d32878c0ba1e"), looks := true }, kinds := [], alts := [], laidByText := true, laidKinds := [.data, .data, .data, .data, .sentinel, .sentinel, .pinned], laidTests := true, laidLooks := .later }
def ConvexMeasuresUptoCardSaid : Prop := Claim7.holds Tryz.pinned (.plain (OpenSpec.upto convexMeasuresSpec)) convexMeasuresUptoCard

/-- THE SECOND FORM's CARD OF 'kingpostlaw13.ConvexMass'. -/
def convexMassUptoCard : Claim7 := { stood := { row := convexMassUptoRow, standIns := [], harness := (true, "3686b9202d8053053a66e73b2e90c84d4155f02bb31940e327b3d32878c0ba1e"), looks := true }, kinds := [], alts := [], laidByText := true, laidKinds := [.data, .data, .data, .data, .sentinel, .sentinel, .pinned], laidTests := true, laidLooks := .later }
def ConvexMassUptoCardSaid : Prop := Claim7.holds Tryz.pinned (.plain (OpenSpec.upto convexMassSpec)) convexMassUptoCard
end Rows
end Go.Proofs.YthndmdimmgkpgaaGreatDoor
