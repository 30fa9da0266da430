/-
  awake gives true.
-/
import Derived.Test.YtnpfkmbcejgnjaaGreatDoorExample
namespace Go.Proofs.YtnpfkmbcejgnjaaGreatDoor
open Go Go.RowKit Go.Am Go.Lib
set_option maxRecDepth 10000
-- BOXES 2
theorem ex_chk : chk [exRing] = 0 := by decide +kernel
theorem ex_cvx2 : cvxV [exRing] 2 = .tuple #[.bool true, .int .i64 0] := by
  have h1 : loc [exRing] 2 = some (0, 2) := by decide +kernel
  have h2 : lefq [exRing] (0, 2) = true := by decide +kernel
  unfold cvxV; rw [h1]; show Value.tuple #[.bool (lefq [exRing] (0, 2)), _] = _; rw [h2]
theorem ex_cvx3 : cvxV [exRing] 3 = .tuple #[.bool false, .int .i64 0] := by
  have h1 : loc [exRing] 3 = some (0, 3) := by decide +kernel
  have h2 : lefq [exRing] (0, 3) = false := by decide +kernel
  unfold cvxV; rw [h1]; show Value.tuple #[.bool (lefq [exRing] (0, 3)), _] = _; rw [h2]
theorem ex_area : itoa (areaN [exRing]) = [53, 54] := by
  have h1 : areaN [exRing] = ((56 : Nat) : Int) := by decide +kernel
  rw [h1]
  unfold itoa
  rw [if_neg (by omega)]
  exact decDigits_two (i := 56) (by decide) (by decide)
set_option maxHeartbeats 4000000 in
theorem awake_gives (W : World) (ht : TabP W) : CallsR Tryz.prog 13 #[] W (fun _ : Unit => .bool true) (fun _ => True) (fun _ => []) := by
  refine calls_enter (args := []) Tryz.func13 rfl rfl rfl ?_
  refine zA ?_
  refine zB ?_
  refine wl_pure Tryz.hT rfl rfl rfl ?_
  refine wl_nil ?_
  refine zE ?_
  refine zA ?_
  refine zB ?_
  refine wl_call (X := Vec × Made) rfl rfl rfl rfl rfl rfl (by kernel_rfl) (fun W _ => example_gives W) ?_
  rintro ⟨V1, mk1⟩ ⟨hmk1, hV1⟩
  obtain ⟨q1, cq1, e1, hr1⟩ := made_rings hmk1 hV1
  refine wl_upd 10 (planV q1 1 cq1) rfl (congrArg (fun v => Value.agg #[v]) e1) ?_
  refine wl_call (X := Vec) rfl rfl rfl rfl rfl rfl (by kernel_rfl) (fun W hp => sides_ok W q1 cq1 [exRing] (by decide) (hr1 hp 0 1 rfl rfl) ex_chk) ?_
  intro U hU
  refine wl_pure Tryz.hT rfl rfl rfl ?_
  refine wl_pure Tryz.hT rfl rfl rfl ?_
  refine wl_upd 12 (.slice (U.p.map fun g => ⟨g, 0, none⟩) 6 (match U.p with | none => 0 | some _ => U.cap)) rfl (Vec.val_eq hU) ?_
  refine wl_pure Tryz.hT rfl rfl rfl ?_
  refine wl_pure Tryz.hT rfl rfl rfl ?_
  refine wl_pure Tryz.hT rfl rfl rfl ?_
  refine wl_nil ?_
  refine zE ?_
  refine zA ?_
  refine zB ?_
  refine wl_call (X := Vec × Made) rfl rfl rfl rfl rfl rfl (by kernel_rfl) (fun W _ => example_gives W) ?_
  rintro ⟨V2, mk2⟩ ⟨hmk2, hV2⟩
  obtain ⟨q2, cq2, e2, hr2⟩ := made_rings hmk2 hV2
  refine wl_upd 15 (planV q2 1 cq2) rfl (congrArg (fun v => Value.agg #[v]) e2) ?_
  refine wl_call1 rfl rfl rfl rfl rfl rfl (by kernel_rfl) (fun W hp => (convex_ok W q2 cq2 [exRing] 2 (by decide) (hr2 hp 3 4 rfl rfl) ex_chk).cast ex_cvx2) ?_
  refine wl_pure Tryz.hT rfl rfl rfl ?_
  refine wl_pure Tryz.hT rfl rfl rfl ?_
  refine wl_pure Tryz.hT rfl rfl rfl ?_
  refine wl_pure Tryz.hT rfl rfl rfl ?_
  refine wl_pure Tryz.hT rfl rfl rfl ?_
  refine wl_nil ?_
  refine zE ?_
  refine zA ?_
  refine zB ?_
  refine wl_call (X := Vec × Made) rfl rfl rfl rfl rfl rfl (by kernel_rfl) (fun W _ => example_gives W) ?_
  rintro ⟨V3, mk3⟩ ⟨hmk3, hV3⟩
  obtain ⟨q3, cq3, e3, hr3⟩ := made_rings hmk3 hV3
  refine wl_upd 20 (planV q3 1 cq3) rfl (congrArg (fun v => Value.agg #[v]) e3) ?_
  refine wl_call1 rfl rfl rfl rfl rfl rfl (by kernel_rfl) (fun W hp => (convex_ok W q3 cq3 [exRing] 3 (by decide) (hr3 hp 5 6 rfl rfl) ex_chk).cast ex_cvx3) ?_
  refine wl_pure Tryz.hT rfl rfl rfl ?_
  refine wl_pure Tryz.hT rfl rfl rfl ?_
  refine wl_pure Tryz.hT rfl rfl rfl ?_
  refine wl_pure Tryz.hT rfl rfl rfl ?_
  refine wl_pure Tryz.hT rfl rfl rfl ?_
  refine wl_nil ?_
  refine zE ?_
  refine zA ?_
  refine zB ?_
  refine wl_call (X := Vec × Made) rfl rfl rfl rfl rfl rfl (by kernel_rfl) (fun W _ => example_gives W) ?_
  rintro ⟨V4, mk4⟩ ⟨hmk4, hV4⟩
  obtain ⟨q4, cq4, e4, hr4⟩ := made_rings hmk4 hV4
  refine wl_upd 25 (planV q4 1 cq4) rfl (congrArg (fun v => Value.agg #[v]) e4) ?_
  refine wl_call1 rfl rfl rfl rfl rfl rfl (by kernel_rfl) (fun W hp => (areaF_ok W q4 cq4 [exRing] (by decide) (hr4 hp 7 8 rfl rfl) ex_chk (ht.hp hp)).cast (by rw [ex_area])) ?_
  refine wl_pure Tryz.hT rfl rfl rfl ?_
  refine wl_pure Tryz.hT rfl rfl rfl ?_
  refine wl_pure Tryz.hT rfl rfl rfl ?_
  refine wl_pure Tryz.hT rfl rfl rfl ?_
  refine wl_pure Tryz.hT rfl rfl rfl ?_
  refine wl_nil ?_
  refine zE ?_
  refine zA ?_
  refine zB ?_
  refine wl_pure Tryz.hT rfl rfl rfl ?_
  refine wl_pure Tryz.hT rfl rfl rfl ?_
  refine wl_pure Tryz.hT rfl rfl rfl ?_
  refine wl_pure Tryz.hT rfl rfl rfl ?_
  refine wl_pure Tryz.hT rfl rfl rfl ?_
  refine wl_pure Tryz.hT rfl rfl rfl ?_
  refine wl_upd 34 (.bool true) rfl (congrArg Value.bool (by decide)) ?_
  refine wl_pure Tryz.hT rfl rfl rfl ?_
  refine wl_pure Tryz.hT rfl rfl rfl ?_
  refine wl_pure Tryz.hT rfl rfl rfl ?_
  refine wl_pure Tryz.hT rfl rfl rfl ?_
  refine wl_pure Tryz.hT rfl rfl rfl ?_
  refine wl_pure Tryz.hT rfl rfl rfl ?_
  refine wl_pure Tryz.hT rfl rfl rfl ?_
  refine wl_pure Tryz.hT rfl rfl rfl ?_
  refine wl_pure Tryz.hT rfl rfl rfl ?_
  refine wl_pure Tryz.hT rfl rfl rfl ?_
  refine wl_pure Tryz.hT rfl rfl rfl ?_
  refine wl_pure Tryz.hT rfl rfl rfl ?_
  refine wl_pure Tryz.hT rfl rfl rfl ?_
  refine wl_pure Tryz.hT rfl rfl rfl ?_
  refine wl_pure Tryz.hT rfl rfl rfl ?_
  refine wl_upd 49 (.bool true) rfl (congrArg Value.bool (by rw [bytes_list [53, 54]]; decide)) ?_
  refine wl_pure Tryz.hT rfl rfl rfl ?_
  refine wl_pure Tryz.hT rfl rfl rfl ?_
  refine wl_nil ?_
  refine zE ?_
  refine zO ?_
  exact ne_ret1 Tryz.hT rfl (.tmp rfl) () rfl trivial fun W _ => NewBx.nil _ _
end Go.Proofs.YtnpfkmbcejgnjaaGreatDoor
