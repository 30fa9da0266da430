/-
  DERIVED. GIVEN WITH THE SEED: THE CARDS: each row of YteaiopkopifijaaGreatDoorRows.lean that lists a variable, with what it lists TIED to the program's text (the seventh form; the later family's looks); each row that meets fmt, with fmt's text TOLD by the authors' own Lean function (tested against real Go, not proved from fmt's source: count such statements apart). THE CARD IS WHAT COUNTS. Prove the row's statement (the work); the ties are given (YteaiopkopifijaaGreatDoorTie.lean); close each card by the builder's one call (the guide's Derived/Test/ToyasCard.lean, 'card_holds'). Laid BY PROGRAM, IN A SANDBOX (cutbox-door.mjs). By AI agents, Wed Nov 11 2026. No macro, syntax, notation, axiom, sorry.
-/
import Derived.Test.YteaiopkopifijaaGreatDoorRows
import GoSem.ClaimSeven
namespace Go.Proofs.YteaiopkopifijaaGreatDoor
namespace Rows

/-- THE TIED CARD OF 'kingpostlaw16.FrontSymmetric'. -/
def frontSymmetricCard : Claim7 := { stood := { row := frontSymmetricRow, standIns := [], harness := (true, "fcb0999ebbbd5f74222562033dafee1c847a0955e1faf2b99c35c868394e5719"), looks := true }, kinds := [], alts := [], laidByText := true, laidKinds := [.data, .data, .data, .data, .sentinel, .sentinel, .pinned], laidTests := true, laidLooks := .later }
def FrontSymmetricCardSaid : Prop := Claim7.holds Tryz.pinned (.plain (OpenSpec.ofChange frontSymmetricSpec)) frontSymmetricCard

/-- THE TIED CARD OF 'kingpostlaw16.FrontSpeeds'. -/
def frontSpeedsCard : Claim7 := { stood := { row := frontSpeedsRow, standIns := [], harness := (true, "fcb0999ebbbd5f74222562033dafee1c847a0955e1faf2b99c35c868394e5719"), looks := true }, kinds := [], alts := [], laidByText := true, laidKinds := [.data, .data, .data, .data, .sentinel, .sentinel, .pinned], laidTests := true, laidLooks := .later }
def FrontSpeedsCardSaid : Prop := Claim7.holds Tryz.pinned (.plain (OpenSpec.ofChange frontSpeedsSpec)) frontSpeedsCard

/-- THE TIED CARD OF 'kingpostlaw16.FrontMeets'. -/
def frontMeetsCard : Claim7 := { stood := { row := frontMeetsRow, standIns := [], harness := (true, "fcb0999ebbbd5f74222562033dafee1c847a0955e1faf2b99c35c868394e5719"), looks := true }, kinds := [], alts := [], laidByText := true, laidKinds := [.data, .data, .data, .data, .sentinel, .sentinel, .pinned], laidTests := true, laidLooks := .later }
def FrontMeetsCardSaid : Prop := Claim7.holds Tryz.pinned (.plain (OpenSpec.ofChange frontMeetsSpec)) frontMeetsCard

/-- THE TIED CARD OF 'kingpostlaw16.FrontLevels'. -/
def frontLevelsCard : Claim7 := { stood := { row := frontLevelsRow, standIns := [], harness := (true, "fcb0999ebbbd5f74222562033dafee1c847a0955e1faf2b99c35c868394e5719"), looks := true }, kinds := [], alts := [], laidByText := true, laidKinds := [.data, .data, .data, .data, .sentinel, .sentinel, .pinned], laidTests := true, laidLooks := .later }
def FrontLevelsCardSaid : Prop := Claim7.holds Tryz.pinned (.plain (OpenSpec.ofChange frontLevelsSpec)) frontLevelsCard

/-- THE TIED CARD OF 'kingpostlaw16.FrontMoves'. -/
def frontMovesCard : Claim7 := { stood := { row := frontMovesRow, standIns := [], harness := (true, "fcb0999ebbbd5f74222562033dafee1c847a0955e1faf2b99c35c868394e5719"), looks := true }, kinds := [], alts := [], laidByText := true, laidKinds := [.data, .data, .data, .data, .sentinel, .sentinel, .pinned], laidTests := true, laidLooks := .later }
def FrontMovesCardSaid : Prop := Claim7.holds Tryz.pinned (.plain (OpenSpec.ofChange frontMovesSpec)) frontMovesCard

/-- THE TIED CARD OF 'kingpostlaw16.FrontPlanes'. -/
def frontPlanesCard : Claim7 := { stood := { row := frontPlanesRow, standIns := [], harness := (true, "fcb0999ebbbd5f74222562033dafee1c847a0955e1faf2b99c35c868394e5719"), looks := true }, kinds := [], alts := [], laidByText := true, laidKinds := [.data, .data, .data, .data, .sentinel, .sentinel, .pinned], laidTests := true, laidLooks := .later }
def FrontPlanesCardSaid : Prop := Claim7.holds Tryz.pinned (.plain (OpenSpec.ofChange frontPlanesSpec)) frontPlanesCard

/-- THE TIED CARD OF 'kingpostlaw16.FrontPlans'. -/
def frontPlansCard : Claim7 := { stood := { row := frontPlansRow, standIns := [], harness := (true, "fcb0999ebbbd5f74222562033dafee1c847a0955e1faf2b99c35c868394e5719"), looks := true }, kinds := [], alts := [], laidByText := true, laidKinds := [.data, .data, .data, .data, .sentinel, .sentinel, .data, .pinned], laidTests := true, laidLooks := .later }
def FrontPlansCardSaid : Prop := Claim7.holds Tryz.pinned (.plain (OpenSpec.ofChange frontPlansSpec)) frontPlansCard

/-- THE TIED CARD OF 'kingpostlaw16.FrontCorners'. -/
def frontCornersCard : Claim7 := { stood := { row := frontCornersRow, standIns := [], harness := (true, "fcb0999ebbbd5f74222562033dafee1c847a0955e1faf2b99c35c868394e5719"), looks := true }, kinds := [], alts := [], laidByText := true, laidKinds := [.data, .data, .data, .data, .sentinel, .sentinel, .data, .pinned], laidTests := true, laidLooks := .later }
def FrontCornersCardSaid : Prop := Claim7.holds Tryz.pinned (.plain (OpenSpec.ofChange frontCornersSpec)) frontCornersCard

/-- THE TIED CARD OF 'kingpostlaw16.FrontInside'. -/
def frontInsideCard : Claim7 := { stood := { row := frontInsideRow, standIns := [], harness := (true, "fcb0999ebbbd5f74222562033dafee1c847a0955e1faf2b99c35c868394e5719"), looks := true }, kinds := [], alts := [], laidByText := true, laidKinds := [.data, .data, .data, .data, .sentinel, .sentinel, .data, .pinned], laidTests := true, laidLooks := .later }
def FrontInsideCardSaid : Prop := Claim7.holds Tryz.pinned (.plain (OpenSpec.ofChange frontInsideSpec)) frontInsideCard

/-- THE SECOND FORM's CARD OF 'kingpostlaw16.FrontSymmetric'. -/
def frontSymmetricUptoCard : Claim7 := { stood := { row := frontSymmetricUptoRow, standIns := [], harness := (true, "fcb0999ebbbd5f74222562033dafee1c847a0955e1faf2b99c35c868394e5719"), looks := true }, kinds := [], alts := [], laidByText := true, laidKinds := [.data, .data, .data, .data, .sentinel, .sentinel, .pinned], laidTests := true, laidLooks := .later }
def FrontSymmetricUptoCardSaid : Prop := Claim7.holds Tryz.pinned (.plain (OpenSpec.upto frontSymmetricSpec)) frontSymmetricUptoCard

/-- THE SECOND FORM's CARD OF 'kingpostlaw16.FrontSpeeds'. -/
def frontSpeedsUptoCard : Claim7 := { stood := { row := frontSpeedsUptoRow, standIns := [], harness := (true, "fcb0999ebbbd5f74222562033dafee1c847a0955e1faf2b99c35c868394e5719"), looks := true }, kinds := [], alts := [], laidByText := true, laidKinds := [.data, .data, .data, .data, .sentinel, .sentinel, .pinned], laidTests := true, laidLooks := .later }
def FrontSpeedsUptoCardSaid : Prop := Claim7.holds Tryz.pinned (.plain (OpenSpec.upto frontSpeedsSpec)) frontSpeedsUptoCard

/-- THE SECOND FORM's CARD OF 'kingpostlaw16.FrontMeets'. -/
def frontMeetsUptoCard : Claim7 := { stood := { row := frontMeetsUptoRow, standIns := [], harness := (true, "fcb0999ebbbd5f74222562033dafee1c847a0955e1faf2b99c35c868394e5719"), looks := true }, kinds := [], alts := [], laidByText := true, laidKinds := [.data, .data, .data, .data, .sentinel, .sentinel, .pinned], laidTests := true, laidLooks := .later }
def FrontMeetsUptoCardSaid : Prop := Claim7.holds Tryz.pinned (.plain (OpenSpec.upto frontMeetsSpec)) frontMeetsUptoCard

/-- THE SECOND FORM's CARD OF 'kingpostlaw16.FrontLevels'. -/
def frontLevelsUptoCard : Claim7 := { stood := { row := frontLevelsUptoRow, standIns := [], harness := (true, "fcb0999ebbbd5f74222562033dafee1c847a0955e1faf2b99c35c868394e5719"), looks := true }, kinds := [], alts := [], laidByText := true, laidKinds := [.data, .data, .data, .data, .sentinel, .sentinel, .pinned], laidTests := true, laidLooks := .later }
def FrontLevelsUptoCardSaid : Prop := Claim7.holds Tryz.pinned (.plain (OpenSpec.upto frontLevelsSpec)) frontLevelsUptoCard

/-- THE SECOND FORM's CARD OF 'kingpostlaw16.FrontMoves'. -/
def frontMovesUptoCard : Claim7 := { stood := { row := frontMovesUptoRow, standIns := [], harness := (true, "fcb0999ebbbd5f74222562033dafee1c847a0955e1faf2b99c35c868394e5719"), looks := true }, kinds := [], alts := [], laidByText := true, laidKinds := [.data, .data, .data, .data, .sentinel, .sentinel, .pinned], laidTests := true, laidLooks := .later }
def FrontMovesUptoCardSaid : Prop := Claim7.holds Tryz.pinned (.plain (OpenSpec.upto frontMovesSpec)) frontMovesUptoCard

/-- THE SECOND FORM's CARD OF 'kingpostlaw16.FrontPlanes'. -/
def frontPlanesUptoCard : Claim7 := { stood := { row := frontPlanesUptoRow, standIns := [], harness := (true, "fcb0999ebbbd5f74222562033dafee1c847a0955e1faf2b99c35c868394e5719"), looks := true }, kinds := [], alts := [], laidByText := true, laidKinds := [.data, .data, .data, .data, .sentinel, .sentinel, .pinned], laidTests := true, laidLooks := .later }
def FrontPlanesUptoCardSaid : Prop := Claim7.holds Tryz.pinned (.plain (OpenSpec.upto frontPlanesSpec)) frontPlanesUptoCard

/-- THE SECOND FORM's CARD OF 'kingpostlaw16.FrontPlans'. -/
def frontPlansUptoCard : Claim7 := { stood := { row := frontPlansUptoRow, standIns := [], harness := (true, "fcb0999ebbbd5f74222562033dafee1c847a0955e1faf2b99c35c868394e5719"), looks := true }, kinds := [], alts := [], laidByText := true, laidKinds := [.data, .data, .data, .data, .sentinel, .sentinel, .data, .pinned], laidTests := true, laidLooks := .later }
def FrontPlansUptoCardSaid : Prop := Claim7.holds Tryz.pinned (.plain (OpenSpec.upto frontPlansSpec)) frontPlansUptoCard

/-- THE SECOND FORM's CARD OF 'kingpostlaw16.FrontCorners'. -/
def frontCornersUptoCard : Claim7 := { stood := { row := frontCornersUptoRow, standIns := [], harness := (true, "fcb0999ebbbd5f74222562033dafee1c847a0955e1faf2b99c35c868394e5719"), looks := true }, kinds := [], alts := [], laidByText := true, laidKinds := [.data, .data, .data, .data, .sentinel, .sentinel, .data, .pinned], laidTests := true, laidLooks := .later }
def FrontCornersUptoCardSaid : Prop := Claim7.holds Tryz.pinned (.plain (OpenSpec.upto frontCornersSpec)) frontCornersUptoCard

/-- THE SECOND FORM's CARD OF 'kingpostlaw16.FrontInside'. -/
def frontInsideUptoCard : Claim7 := { stood := { row := frontInsideUptoRow, standIns := [], harness := (true, "fcb0999ebbbd5f74222562033dafee1c847a0955e1faf2b99c35c868394e5719"), looks := true }, kinds := [], alts := [], laidByText := true, laidKinds := [.data, .data, .data, .data, .sentinel, .sentinel, .data, .pinned], laidTests := true, laidLooks := .later }
def FrontInsideUptoCardSaid : Prop := Claim7.holds Tryz.pinned (.plain (OpenSpec.upto frontInsideSpec)) frontInsideUptoCard
end Rows
end Go.Proofs.YteaiopkopifijaaGreatDoor
