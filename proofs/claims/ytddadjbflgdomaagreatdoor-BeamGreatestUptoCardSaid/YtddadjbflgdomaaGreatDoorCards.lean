/-
  DERIVED. GIVEN WITH THE SEED: THE CARDS: each row of YtddadjbflgdomaaGreatDoorRows.lean that lists a variable, with what it lists TIED to the program's text (the seventh form; the later family's looks); each row that meets fmt, with fmt's text TOLD by the authors' own Lean function (tested against real Go, not proved from fmt's source: count such statements apart). THE CARD IS WHAT COUNTS. Prove the row's statement (the work); the ties are given (YtddadjbflgdomaaGreatDoorTie.lean); close each card by the builder's one call (the guide's Derived/Test/ToyasCard.lean, 'card_holds'). Laid BY PROGRAM, IN A SANDBOX (cutbox-door.mjs). By AI agents, Wed Nov 11 2026. No macro, syntax, notation, axiom, sorry.
-/
import Derived.Test.YtddadjbflgdomaaGreatDoorRows
import GoSem.ClaimSeven
namespace Go.Proofs.YtddadjbflgdomaaGreatDoor
namespace Rows

/-- THE TIED CARD OF 'kingpostlaw52.BeamGreatest'. -/
def beamGreatestCard : Claim7 := { stood := { row := beamGreatestRow, standIns := [], harness := (true, "fe51eee134c75339a0152fb7d24c5fc186614aed33061c6d4f7a202975dd92cc"), looks := true }, kinds := [], alts := [], laidByText := true, laidKinds := [.data, .data, .data, .data, .sentinel, .sentinel, .pinned], laidTests := true, laidLooks := .later }
def BeamGreatestCardSaid : Prop := Claim7.holds Tryz.pinned (.plain (OpenSpec.ofChange beamGreatestSpec)) beamGreatestCard

/-- THE TIED CARD OF 'kingpostlaw52.BeamSingle'. -/
def beamSingleCard : Claim7 := { stood := { row := beamSingleRow, standIns := [], harness := (true, "fe51eee134c75339a0152fb7d24c5fc186614aed33061c6d4f7a202975dd92cc"), looks := true }, kinds := [], alts := [], laidByText := true, laidKinds := [.data, .data, .data, .data, .sentinel, .sentinel, .pinned], laidTests := true, laidLooks := .later }
def BeamSingleCardSaid : Prop := Claim7.holds Tryz.pinned (.plain (OpenSpec.ofChange beamSingleSpec)) beamSingleCard

/-- THE TIED CARD OF 'kingpostlaw52.BeamScales'. -/
def beamScalesCard : Claim7 := { stood := { row := beamScalesRow, standIns := [], harness := (true, "fe51eee134c75339a0152fb7d24c5fc186614aed33061c6d4f7a202975dd92cc"), looks := true }, kinds := [], alts := [], laidByText := true, laidKinds := [.data, .data, .data, .data, .sentinel, .sentinel, .pinned], laidTests := true, laidLooks := .later }
def BeamScalesCardSaid : Prop := Claim7.holds Tryz.pinned (.plain (OpenSpec.ofChange beamScalesSpec)) beamScalesCard

/-- THE TIED CARD OF 'kingpostlaw52.BeamSlopes'. -/
def beamSlopesCard : Claim7 := { stood := { row := beamSlopesRow, standIns := [], harness := (true, "fe51eee134c75339a0152fb7d24c5fc186614aed33061c6d4f7a202975dd92cc"), looks := true }, kinds := [], alts := [], laidByText := true, laidKinds := [.data, .data, .data, .data, .sentinel, .sentinel, .pinned], laidTests := true, laidLooks := .later }
def BeamSlopesCardSaid : Prop := Claim7.holds Tryz.pinned (.plain (OpenSpec.ofChange beamSlopesSpec)) beamSlopesCard

/-- THE TIED CARD OF 'kingpostlaw52.BeamBalance'. -/
def beamBalanceCard : Claim7 := { stood := { row := beamBalanceRow, standIns := [], harness := (true, "fe51eee134c75339a0152fb7d24c5fc186614aed33061c6d4f7a202975dd92cc"), looks := true }, kinds := [], alts := [], laidByText := true, laidKinds := [.data, .data, .data, .data, .sentinel, .sentinel, .pinned], laidTests := true, laidLooks := .later }
def BeamBalanceCardSaid : Prop := Claim7.holds Tryz.pinned (.plain (OpenSpec.ofChange beamBalanceSpec)) beamBalanceCard

/-- THE TIED CARD OF 'kingpostlaw52.BeamMirrors'. -/
def beamMirrorsCard : Claim7 := { stood := { row := beamMirrorsRow, standIns := [], harness := (true, "fe51eee134c75339a0152fb7d24c5fc186614aed33061c6d4f7a202975dd92cc"), looks := true }, kinds := [], alts := [], laidByText := true, laidKinds := [.data, .data, .data, .data, .sentinel, .sentinel, .pinned], laidTests := true, laidLooks := .later }
def BeamMirrorsCardSaid : Prop := Claim7.holds Tryz.pinned (.plain (OpenSpec.ofChange beamMirrorsSpec)) beamMirrorsCard

/-- THE TIED CARD OF 'kingpostlaw52.BeamAdds'. -/
def beamAddsCard : Claim7 := { stood := { row := beamAddsRow, standIns := [], harness := (true, "fe51eee134c75339a0152fb7d24c5fc186614aed33061c6d4f7a202975dd92cc"), looks := true }, kinds := [], alts := [], laidByText := true, laidKinds := [.data, .data, .data, .data, .sentinel, .sentinel, .pinned], laidTests := true, laidLooks := .later }
def BeamAddsCardSaid : Prop := Claim7.holds Tryz.pinned (.plain (OpenSpec.ofChange beamAddsSpec)) beamAddsCard

/-- THE SECOND FORM's CARD OF 'kingpostlaw52.BeamGreatest'. -/
def beamGreatestUptoCard : Claim7 := { stood := { row := beamGreatestUptoRow, standIns := [], harness := (true, "fe51eee134c75339a0152fb7d24c5fc186614aed33061c6d4f7a202975dd92cc"), looks := true }, kinds := [], alts := [], laidByText := true, laidKinds := [.data, .data, .data, .data, .sentinel, .sentinel, .pinned], laidTests := true, laidLooks := .later }
def BeamGreatestUptoCardSaid : Prop := Claim7.holds Tryz.pinned (.plain (OpenSpec.upto beamGreatestSpec)) beamGreatestUptoCard

/-- THE SECOND FORM's CARD OF 'kingpostlaw52.BeamSingle'. -/
def beamSingleUptoCard : Claim7 := { stood := { row := beamSingleUptoRow, standIns := [], harness := (true, "fe51eee134c75339a0152fb7d24c5fc186614aed33061c6d4f7a202975dd92cc"), looks := true }, kinds := [], alts := [], laidByText := true, laidKinds := [.data, .data, .data, .data, .sentinel, .sentinel, .pinned], laidTests := true, laidLooks := .later }
def BeamSingleUptoCardSaid : Prop := Claim7.holds Tryz.pinned (.plain (OpenSpec.upto beamSingleSpec)) beamSingleUptoCard

/-- THE SECOND FORM's CARD OF 'kingpostlaw52.BeamScales'. -/
def beamScalesUptoCard : Claim7 := { stood := { row := beamScalesUptoRow, standIns := [], harness := (true, "fe51eee134c75339a0152fb7d24c5fc186614aed33061c6d4f7a202975dd92cc"), looks := true }, kinds := [], alts := [], laidByText := true, laidKinds := [.data, .data, .data, .data, .sentinel, .sentinel, .pinned], laidTests := true, laidLooks := .later }
def BeamScalesUptoCardSaid : Prop := Claim7.holds Tryz.pinned (.plain (OpenSpec.upto beamScalesSpec)) beamScalesUptoCard

/-- THE SECOND FORM's CARD OF 'kingpostlaw52.BeamSlopes'. -/
def beamSlopesUptoCard : Claim7 := { stood := { row := beamSlopesUptoRow, standIns := [], harness := (true, "fe51eee134c75339a0152fb7d24c5fc186614aed33061c6d4f7a202975dd92cc"), looks := true }, kinds := [], alts := [], laidByText := true, laidKinds := [.data, .data, .data, .data, .sentinel, .sentinel, .pinned], laidTests := true, laidLooks := .later }
def BeamSlopesUptoCardSaid : Prop := Claim7.holds Tryz.pinned (.plain (OpenSpec.upto beamSlopesSpec)) beamSlopesUptoCard

/-- THE SECOND FORM's CARD OF 'kingpostlaw52.BeamBalance'. -/
def beamBalanceUptoCard : Claim7 := { stood := { row := beamBalanceUptoRow, standIns := [], harness := (true, "fe51eee134c75339a0152fb7d24c5fc186614aed33061c6d4f7a202975dd92cc"), looks := true }, kinds := [], alts := [], laidByText := true, laidKinds := [.data, .data, .data, .data, .sentinel, .sentinel, .pinned], laidTests := true, laidLooks := .later }
def BeamBalanceUptoCardSaid : Prop := Claim7.holds Tryz.pinned (.plain (OpenSpec.upto beamBalanceSpec)) beamBalanceUptoCard

/-- THE SECOND FORM's CARD OF 'kingpostlaw52.BeamMirrors'. -/
def beamMirrorsUptoCard : Claim7 := { stood := { row := beamMirrorsUptoRow, standIns := [], harness := (true, "fe51eee134c75339a0152fb7d24c5fc186614aed33061c6d4f7a202975dd92cc"), looks := true }, kinds := [], alts := [], laidByText := true, laidKinds := [.data, .data, .data, .data, .sentinel, .sentinel, .pinned], laidTests := true, laidLooks := .later }
def BeamMirrorsUptoCardSaid : Prop := Claim7.holds Tryz.pinned (.plain (OpenSpec.upto beamMirrorsSpec)) beamMirrorsUptoCard

/-- THE SECOND FORM's CARD OF 'kingpostlaw52.BeamAdds'. -/
def beamAddsUptoCard : Claim7 := { stood := { row := beamAddsUptoRow, standIns := [], harness := (true, "fe51eee134c75339a0152fb7d24c5fc186614aed33061c6d4f7a202975dd92cc"), looks := true }, kinds := [], alts := [], laidByText := true, laidKinds := [.data, .data, .data, .data, .sentinel, .sentinel, .pinned], laidTests := true, laidLooks := .later }
def BeamAddsUptoCardSaid : Prop := Claim7.holds Tryz.pinned (.plain (OpenSpec.upto beamAddsSpec)) beamAddsUptoCard
end Rows
end Go.Proofs.YtddadjbflgdomaaGreatDoor
