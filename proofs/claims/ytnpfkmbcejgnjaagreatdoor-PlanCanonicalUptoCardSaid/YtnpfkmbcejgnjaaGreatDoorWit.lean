/-
  What every law over plans needs at its row: the world of the witness; the listed table; one plan among the arguments.
-/
import Derived.Test.YtnpfkmbcejgnjaaGreatDoorOpen
import Derived.Test.YtnpfkmbcejgnjaaGreatDoorNum
import Derived.Test.YtnpfkmbcejgnjaaGreatDoorCards
import Derived.Test.YtnpfkmbcejgnjaaGreatDoorTie
import Derived.WalkKit
import Derived.ProofKit
import Derived.OpenShut
import Derived.Deep.DeepHandedRow
import Derived.Lib.LaidTab
import Derived.Stop.LaidErr
import Derived.Lay
import Derived.SevenTiedAt
namespace Go.Proofs.YtnpfkmbcejgnjaaGreatDoor
open Go Go.RowKit Go.Am Go.ChangeShapes Go.WideShapes Go.ChangeAt
set_option maxRecDepth 100000
theorem own : ownKnob Tryz.prog.godebug = none := by kernel_rfl
theorem laidOut : laidOutB Tryz.prog = true := by kernel_rfl
/-- The list of the package variables, the same for every law over plans. -/
noncomputable abbrev laidL : List (String × DataW Unit) := Rows.planShiftsRow.laid
theorem laid_plain : (laidL.all fun x => x.2.handleName?.isNone) = true := by kernel_rfl
theorem tab_of_laid {W : World} (h : laidMetH Tryz.prog laidL W) : TabP W := by
  rw [MakeChecks.laidMetH_plain _ _ _ laid_plain] at h
  exact Lib.tabIs_of_head (g := 1) (t := 250) (e := 167) (n := 20) (by kernel_rfl) (by kernel_rfl) (by kernel_rfl) (by kernel_rfl) (by kernel_rfl) (by kernel_rfl) h.tail.tail
noncomputable def witW (os : Os) : World := World.laidAll Tryz.prog os laidL
theorem wit_laid (os : Os) (args : Array Value) : laidMetH Tryz.prog laidL ((witW os).forCall (fun _ _ => 0) ⟨#[], args, []⟩).memory := by
  rw [MakeChecks.laidMetH_plain _ _ _ laid_plain]
  exact laidMet_laidAll _ (by kernel_rfl) (by kernel_rfl)
theorem wit_shaped (os : Os) (args : Array Value) : ((witW os).forCall (fun _ _ => 0) ⟨#[], args, []⟩).Shaped Tryz.prog :=
  World.shaped_of_ZipB (by kernel_rfl) (by kernel_rfl)
/-- The witness of a row: its arguments have their types' forms, and the row's side holds. -/
theorem wit_row {H : Type} {enc : TypeId × Value → H} (os : Os) {f : FuncId} {fn : Func} {s : OpenSpec} {conds : List PathCond} (args : Array Value)
    (hok : Input.okWideB Tryz.prog ((witW os).forCall (fun _ _ => 0) ⟨#[], args, []⟩) f ⟨#[], args, []⟩ = true)
    (hrow : s.preRow enc Tryz.prog fn conds false laidL ((witW os).forCall (fun _ _ => 0) ⟨#[], args, []⟩).memory args) :
    ∃ (w : World) (tape : Tape) (i : Input), w.os = os ∧ (w.forCall tape i).Shaped Tryz.prog ∧ i.vars = [] ∧ Input.okWide Tryz.prog (w.forCall tape i) .any w.heap.size f i ∧
      s.preRow enc Tryz.prog fn conds false laidL (w.forCall tape i).memory i.args ∧ ({} : Assume).holds Tryz.prog (lone (Frame.enter Tryz.prog f i.args .normal) [] (w.forCall tape i)) :=
  ⟨witW os, fun _ _ => 0, ⟨#[], args, []⟩, World.laidAll_os _ _ _, wit_shaped os args, (Input.okWide_of_okWideB (base := 0) hok).1, (Input.okWide_of_okWideB hok).2, hrow, by
    simp only [Assume.holds]
    exact ⟨by simp, by simp, by simp, by simp, by simp, by simp⟩⟩
end Go.Proofs.YtnpfkmbcejgnjaaGreatDoor
