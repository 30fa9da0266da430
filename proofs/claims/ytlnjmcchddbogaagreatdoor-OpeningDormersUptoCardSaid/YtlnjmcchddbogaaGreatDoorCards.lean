/-
  DERIVED. GIVEN WITH THE SEED: THE CARDS: each row of YtlnjmcchddbogaaGreatDoorRows.lean that lists a variable, with what it lists TIED to the program's text (the seventh form; the later family's looks); each row that meets fmt, with fmt's text TOLD by the authors' own Lean function (tested against real Go, not proved from fmt's source: count such statements apart). THE CARD IS WHAT COUNTS. Prove the row's statement (the work); the ties are given (YtlnjmcchddbogaaGreatDoorTie.lean); close each card by the builder's one call (the guide's Derived/Test/ToyasCard.lean, 'card_holds'). Laid BY PROGRAM, IN A SANDBOX (cutbox-door.mjs). By AI agents, Wed Nov 11 2026. No macro, syntax, notation, axiom, sorry.
-/
import Derived.Test.YtlnjmcchddbogaaGreatDoorRows
import GoSem.ClaimSeven
namespace Go.Proofs.YtlnjmcchddbogaaGreatDoor
namespace Rows

/-- THE TIED CARD OF 'kingpostlaw25.OpeningDormers'. -/
def openingDormersCard : Claim7 := { stood := { row := openingDormersRow, standIns := [], harness := (true, "2beb344edc3e6cac592d939cc1f387715c89d1e62cdba12e0055faa56fb20509"), looks := true }, kinds := [], alts := [], laidByText := true, laidKinds := [.data, .data, .data, .data, .sentinel, .sentinel, .data, .pinned], laidTests := true, laidLooks := .later }
def OpeningDormersCardSaid : Prop := Claim7.holds Tryz.pinned (.plain (OpenSpec.ofChange openingDormersSpec)) openingDormersCard

/-- THE SECOND FORM's CARD OF 'kingpostlaw25.OpeningDormers'. -/
def openingDormersUptoCard : Claim7 := { stood := { row := openingDormersUptoRow, standIns := [], harness := (true, "2beb344edc3e6cac592d939cc1f387715c89d1e62cdba12e0055faa56fb20509"), looks := true }, kinds := [], alts := [], laidByText := true, laidKinds := [.data, .data, .data, .data, .sentinel, .sentinel, .data, .pinned], laidTests := true, laidLooks := .later }
def OpeningDormersUptoCardSaid : Prop := Claim7.holds Tryz.pinned (.plain (OpenSpec.upto openingDormersSpec)) openingDormersUptoCard
end Rows
end Go.Proofs.YtlnjmcchddbogaaGreatDoor
