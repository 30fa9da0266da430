/-
  The package variables that strings' functions read, out of a row's world.
-/
import Derived.Test.YtnpfkmbcejgnjaaGreatDoorWit
import Derived.Test.YtnpfkmbcejgnjaaGreatDoorPieces
import Derived.Stop.LaidErr
import Derived.Shelf.Vars
namespace Go.Proofs.YtnpfkmbcejgnjaaGreatDoor
open Go Go.RowKit Go.Am
set_option maxRecDepth 100000
theorem star_err : "*" ++ "errors.errorString" = "*errors.errorString" := by decide
theorem row265 (u : TypeId) (h : Tryz.prog.typeName? 3 u = some "*errors.errorString") : u = 265 :=
  typeName_ptr_named (nm := "errors.errorString") (by rw [star_err]; kernel_rfl) (by kernel_rfl) (by decide) u (by rw [star_err]; exact h)
theorem vars_of {W : World} (hL : laidMetH Tryz.prog laidL W) (hS : W.ShapedOpen Tryz.prog) : VarsP W := by
  rw [MakeChecks.laidMetH_plain _ _ _ laid_plain] at hL
  refine ⟨cell_of_shapedOpen_int (g := 0) (t := 3) (zero := #[.int .i64 0]) hS (of_decide_eq_true (by kernel_rfl)) (by kernel_rfl) rfl (by kernel_rfl) (by kernel_rfl) Tryz.underlying3, ?_, ?_⟩
  · have g2 : Tryz.prog.globalNamed "strconv.ErrSyntax" = some 2 := by kernel_rfl
    obtain ⟨a, s, hv, _⟩ := laid_sentinel hL.tail.tail.tail.tail.tail g2 (show (Tryz.prog.globals[2]?).map (·.type) = some 96 by kernel_rfl) Tryz.underlying96 row265 Tryz.underlying265 Tryz.underlying267 rfl rfl Tryz.underlying9 (by kernel_rfl) (by kernel_rfl)
    exact ⟨_, by simpa using World.var?_cell g2 hv 0, .inr ⟨_, _, rfl⟩⟩
  · have g3 : Tryz.prog.globalNamed "strconv.ErrRange" = some 3 := by kernel_rfl
    obtain ⟨a, s, hv, _⟩ := laid_sentinel hL.tail.tail.tail.tail g3 (show (Tryz.prog.globals[3]?).map (·.type) = some 96 by kernel_rfl) Tryz.underlying96 row265 Tryz.underlying265 Tryz.underlying267 rfl rfl Tryz.underlying9 (by kernel_rfl) (by kernel_rfl)
    exact ⟨_, by simpa using World.var?_cell g3 hv 0, .inr ⟨_, _, rfl⟩⟩
end Go.Proofs.YtnpfkmbcejgnjaaGreatDoor
