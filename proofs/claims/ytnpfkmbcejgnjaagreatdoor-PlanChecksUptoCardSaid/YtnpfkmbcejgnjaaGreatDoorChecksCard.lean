/-
  The law PlanChecks: for every plan and every number it returns true and leaves its arguments as they were, where the arguments are together of bulk at most 1048576 (the second form); with its tied card.
-/
import Derived.Test.YtnpfkmbcejgnjaaGreatDoorChecksA
namespace Go.Proofs.YtnpfkmbcejgnjaaGreatDoor
open Go Go.RowKit Go.Am Go.ChangeShapes Go.WideShapes Go.ChangeAt
set_option maxRecDepth 100000
namespace Checks
theorem k1 : (Rows.planChecksUptoRow.inPlace == Tryz.prog.inPlace 4) = true := by kernel_rfl
theorem k2 : (Rows.planChecksUptoRow.unfollowed == Tryz.prog.unfollowed 4) = true := by kernel_rfl
theorem k3 : (Rows.planChecksUptoRow.recurses == Tryz.prog.recurses 4) = true := by kernel_rfl
theorem k4 : (Rows.planChecksUptoRow.named == Tryz.prog.varsNamed 4) = true := by kernel_rfl
theorem k5 : mapsRowed Tryz.prog = true := by kernel_rfl
theorem k6 : (Tryz.prog.stops == []) = true := by kernel_rfl
theorem k7 : (Tryz.prog.stopKnobs == []) = true := by kernel_rfl
theorem k8 : Tryz.prog.stopsHeard = true := by kernel_rfl
theorem k9 : Tryz.prog.mayEnter = true := by kernel_rfl
theorem closed : joinedFacts Tryz.prog 4 Tryz.f4 (Rows.OpenSpec.upto Rows.planChecksSpec).bare Rows.planChecksUptoRow = true := by
  unfold joinedFacts
  rw [k1, k2, k3, k4, k5, k6, k7, k8, k9, laidOut]
  kernel_rfl
theorem said : Rows.PlanChecksUptoSaid :=
  OpenClaim.holds_of_cond 4 Tryz.f4 rfl rfl rfl rfl rfl rfl rfl ⟨rfl, rfl, rfl, rfl, rfl⟩ rfl rfl rfl rfl rfl (by kernel_rfl) Tryz.func4 closed
    (of_decide_eq_true (by kernel_rfl)) (by unfold Func.isWrapper; first | (rw [if_pos (by decide +kernel)]; kernel_rfl) | (rw [if_neg (by decide +kernel)]; exact ⟨rfl, rfl⟩))
    (fun os started H enc _ F => by rw [OpenClaim.pre_eq_preRow]; exact lifted os started H enc F)
theorem plain (f : FuncId) (fn : Func) (hf : Tryz.pinned.checked.prog.funcNamed "kingpost/kingpostlaw11.PlanChecks" = some f) (hfn : Tryz.pinned.checked.prog.funcs[f]? = some fn) :
    true = Tryz.pinned.checked.prog.looks [] ∧ ∀ (j : Nat) t, fn.params[j]? = some t → Tryz.pinned.checked.prog.wantsStandIn t = false := by
  obtain rfl : f = 4 := Option.some.inj ((show Tryz.prog.funcNamed "kingpost/kingpostlaw11.PlanChecks" = some 4 by kernel_rfl).symm.trans hf) |>.symm
  obtain rfl : fn = Tryz.f4 := (Option.some.inj (Tryz.func4.symm.trans hfn)).symm
  refine ⟨by kernel_rfl, fun j t ht => ?_⟩
  rw [Tryz.params4] at ht
  have hm : t ∈ [24, 3] := by simpa using Array.mem_of_getElem? ht
  have hall : ([24, 3].all fun u => !Tryz.prog.wantsStandIn u) = true := by kernel_rfl
  exact (show Tryz.prog.wantsStandIn t = false by simpa using List.all_eq_true.1 hall t hm)
theorem card : Rows.PlanChecksUptoCardSaid :=
  Claim7.holds_tied_plain_at .later [] _ _ _ _ said (fun _ h => by cases h) (by kernel_rfl) (fun _ h => by cases h) planChecksUpto_row_tie rfl ⟨rfl, rfl⟩ (by kernel_rfl) rfl plain (by kernel_rfl)
end Checks
theorem planChecks_upto_card : Rows.PlanChecksUptoCardSaid := Checks.card
end Go.Proofs.YtnpfkmbcejgnjaaGreatDoor
