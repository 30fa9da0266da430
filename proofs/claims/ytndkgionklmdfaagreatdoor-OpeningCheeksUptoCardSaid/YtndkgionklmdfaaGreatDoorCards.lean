/-
  DERIVED. GIVEN WITH THE SEED: THE CARDS: each row of YtndkgionklmdfaaGreatDoorRows.lean that lists a variable, with what it lists TIED to the program's text (the seventh form; the later family's looks); each row that meets fmt, with fmt's text TOLD by the authors' own Lean function (tested against real Go, not proved from fmt's source: count such statements apart). THE CARD IS WHAT COUNTS. Prove the row's statement (the work); the ties are given (YtndkgionklmdfaaGreatDoorTie.lean); close each card by the builder's one call (the guide's Derived/Test/ToyasCard.lean, 'card_holds'). Laid BY PROGRAM, IN A SANDBOX (cutbox-door.mjs). By AI agents, Wed Nov 11 2026. No macro, syntax, notation, axiom, sorry.
-/
import Derived.Test.YtndkgionklmdfaaGreatDoorRows
import GoSem.ClaimSeven
namespace Go.Proofs.YtndkgionklmdfaaGreatDoor
namespace Rows

/-- THE TIED CARD OF 'kingpostlaw25.OpeningDisjoint'. -/
def openingDisjointCard : Claim7 := { stood := { row := openingDisjointRow, standIns := [], harness := (true, "df9812731e6959972373165740a5770f206f935dfcddc327d364b43167013fc7"), looks := true }, kinds := [], alts := [], laidByText := true, laidKinds := [.data, .data, .data, .data, .sentinel, .sentinel, .data, .pinned], laidTests := true, laidLooks := .later }
def OpeningDisjointCardSaid : Prop := Claim7.holds Tryz.pinned (.plain (OpenSpec.ofChange openingDisjointSpec)) openingDisjointCard

/-- THE TIED CARD OF 'kingpostlaw25.OpeningMeets'. -/
def openingMeetsCard : Claim7 := { stood := { row := openingMeetsRow, standIns := [], harness := (true, "df9812731e6959972373165740a5770f206f935dfcddc327d364b43167013fc7"), looks := true }, kinds := [], alts := [], laidByText := true, laidKinds := [.data, .data, .data, .data, .sentinel, .sentinel, .data, .pinned], laidTests := true, laidLooks := .later }
def OpeningMeetsCardSaid : Prop := Claim7.holds Tryz.pinned (.plain (OpenSpec.ofChange openingMeetsSpec)) openingMeetsCard

/-- THE TIED CARD OF 'kingpostlaw25.OpeningCheeks'. -/
def openingCheeksCard : Claim7 := { stood := { row := openingCheeksRow, standIns := [], harness := (true, "df9812731e6959972373165740a5770f206f935dfcddc327d364b43167013fc7"), looks := true }, kinds := [], alts := [], laidByText := true, laidKinds := [.data, .data, .data, .data, .sentinel, .sentinel, .data, .pinned], laidTests := true, laidLooks := .later }
def OpeningCheeksCardSaid : Prop := Claim7.holds Tryz.pinned (.plain (OpenSpec.ofChange openingCheeksSpec)) openingCheeksCard

/-- THE TIED CARD OF 'kingpostlaw25.OpeningDormers'. -/
def openingDormersCard : Claim7 := { stood := { row := openingDormersRow, standIns := [], harness := (true, "df9812731e6959972373165740a5770f206f935dfcddc327d364b43167013fc7"), looks := true }, kinds := [], alts := [], laidByText := true, laidKinds := [.data, .data, .data, .data, .sentinel, .sentinel, .data, .pinned], laidTests := true, laidLooks := .later }
def OpeningDormersCardSaid : Prop := Claim7.holds Tryz.pinned (.plain (OpenSpec.ofChange openingDormersSpec)) openingDormersCard

/-- THE SECOND FORM's CARD OF 'kingpostlaw25.OpeningDisjoint'. -/
def openingDisjointUptoCard : Claim7 := { stood := { row := openingDisjointUptoRow, standIns := [], harness := (true, "df9812731e6959972373165740a5770f206f935dfcddc327d364b43167013fc7"), looks := true }, kinds := [], alts := [], laidByText := true, laidKinds := [.data, .data, .data, .data, .sentinel, .sentinel, .data, .pinned], laidTests := true, laidLooks := .later }
def OpeningDisjointUptoCardSaid : Prop := Claim7.holds Tryz.pinned (.plain (OpenSpec.upto openingDisjointSpec)) openingDisjointUptoCard

/-- THE SECOND FORM's CARD OF 'kingpostlaw25.OpeningMeets'. -/
def openingMeetsUptoCard : Claim7 := { stood := { row := openingMeetsUptoRow, standIns := [], harness := (true, "df9812731e6959972373165740a5770f206f935dfcddc327d364b43167013fc7"), looks := true }, kinds := [], alts := [], laidByText := true, laidKinds := [.data, .data, .data, .data, .sentinel, .sentinel, .data, .pinned], laidTests := true, laidLooks := .later }
def OpeningMeetsUptoCardSaid : Prop := Claim7.holds Tryz.pinned (.plain (OpenSpec.upto openingMeetsSpec)) openingMeetsUptoCard

/-- THE SECOND FORM's CARD OF 'kingpostlaw25.OpeningCheeks'. -/
def openingCheeksUptoCard : Claim7 := { stood := { row := openingCheeksUptoRow, standIns := [], harness := (true, "df9812731e6959972373165740a5770f206f935dfcddc327d364b43167013fc7"), looks := true }, kinds := [], alts := [], laidByText := true, laidKinds := [.data, .data, .data, .data, .sentinel, .sentinel, .data, .pinned], laidTests := true, laidLooks := .later }
def OpeningCheeksUptoCardSaid : Prop := Claim7.holds Tryz.pinned (.plain (OpenSpec.upto openingCheeksSpec)) openingCheeksUptoCard

/-- THE SECOND FORM's CARD OF 'kingpostlaw25.OpeningDormers'. -/
def openingDormersUptoCard : Claim7 := { stood := { row := openingDormersUptoRow, standIns := [], harness := (true, "df9812731e6959972373165740a5770f206f935dfcddc327d364b43167013fc7"), looks := true }, kinds := [], alts := [], laidByText := true, laidKinds := [.data, .data, .data, .data, .sentinel, .sentinel, .data, .pinned], laidTests := true, laidLooks := .later }
def OpeningDormersUptoCardSaid : Prop := Claim7.holds Tryz.pinned (.plain (OpenSpec.upto openingDormersSpec)) openingDormersUptoCard
end Rows
end Go.Proofs.YtndkgionklmdfaaGreatDoor
