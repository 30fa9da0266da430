/-
  A copy of a plan, ring by ring.
-/
import Derived.Test.YtnpfkmbcejgnjaaGreatDoorMoved
namespace Go.Proofs.YtnpfkmbcejgnjaaGreatDoor
open Go Go.RowKit Go.Am
set_option maxRecDepth 10000
-- BOXES 6
set_option maxHeartbeats 4000000 in
theorem copied_gives (W : World) (bp : Nat) (p : Option Addr) (cap : Nat) (rs : List (List Sd)) (hn : rs.length < 1099511627776) (hT : tot rs < 1099511627776) (hbp : RowAt W bp 0 [slv p rs.length cap]) (hR : RingsP W p rs) (hne : ∀ l ∈ rs, l ≠ []) :
    CallsR Tryz.prog 29 #[.pointer (some ⟨bp, 0, none⟩)] W (fun x : Vec × Made => .agg #[x.1.val rs.length]) (fun x => MadeOK x.2 rs ∧ x.1.OK 1 rs.length (rowCells x.2)) (fun x => [x.1.bx 27 (rowCells x.2), mkB x.2]) := by
  have hl : ∀ l ∈ rs, l.length < 1099511627776 := fun l h => by have := len_le_tot h; omega
  refine calls_enter (args := [.pointer (some ⟨bp, 0, none⟩)]) Tryz.func29 rfl rfl rfl ?_
  repeat (first | refine zA ?_ | refine zB ?_ | refine zC ?_ | refine zD ?_ | refine zE ?_ | refine zF ?_ | refine zG ?_ | refine zH ?_ | refine zI ?_ | refine zJ ?_ | refine zK ?_ | refine zL ?_ | refine zM rfl ?_ | refine zN ?_ | refine zO ?_ | refine zP ?_ | refine zQ ?_ | refine zR rfl ?_ | refine zS rfl ?_ | refine zT Tryz.mixed (by kernel_rfl) ?_)
  (refine wl_allocZ Tryz.hZ rfl rfl rfl rfl ?_; intro)
  refine wl_nil ?_
  rename_i b1
  repeat (first | refine zA ?_ | refine zB ?_ | refine zC ?_ | refine zD ?_ | refine zE ?_ | refine zF ?_ | refine zG ?_ | refine zH ?_ | refine zI ?_ | refine zJ ?_ | refine zK ?_ | refine zL ?_ | refine zM rfl ?_ | refine zN ?_ | refine zO ?_ | refine zP ?_ | refine zQ ?_ | refine zR rfl ?_ | refine zS rfl ?_ | refine zT Tryz.mixed (by kernel_rfl) ?_)
  (refine wl_allocZ Tryz.hZ rfl rfl rfl rfl ?_; intro)
  refine wl_nil ?_
  rename_i b2
  repeat (first | refine zA ?_ | refine zB ?_ | refine zC ?_ | refine zD ?_ | refine zE ?_ | refine zF ?_ | refine zG ?_ | refine zH ?_ | refine zI ?_ | refine zJ ?_ | refine zK ?_ | refine zL ?_ | refine zM rfl ?_ | refine zN ?_ | refine zO ?_ | refine zP ?_ | refine zQ ?_ | refine zR rfl ?_ | refine zS rfl ?_ | refine zT Tryz.mixed (by kernel_rfl) ?_)
  refine wl_pure Tryz.hT rfl rfl rfl ?_
  (first | refine wl_load rfl rfl rfl rfl (fun W hp => RowAt.load 0 Tryz.hT rfl ((fun W hp => hbp.hp hp) W hp) rfl) ?_ | refine wl_load rfl rfl rfl rfl (fun W hp => RowAt.load 1 Tryz.hT rfl ((fun W hp => hbp.hp hp) W hp) rfl) ?_ | refine wl_load rfl rfl rfl rfl (fun W hp => RowAt.load 2 Tryz.hT rfl ((fun W hp => hbp.hp hp) W hp) rfl) ?_ | refine wl_load rfl rfl rfl rfl (fun W hp => RowAt.load 3 Tryz.hT rfl ((fun W hp => hbp.hp hp) W hp) rfl) ?_ | refine wl_load rfl rfl rfl rfl (fun W hp => RowAt.load 4 Tryz.hT rfl ((fun W hp => hbp.hp hp) W hp) rfl) ?_ | refine wl_load rfl rfl rfl rfl (fun W hp => RowAt.load 5 Tryz.hT rfl ((fun W hp => hbp.hp hp) W hp) rfl) ?_ | refine wl_load rfl rfl rfl rfl (fun W hp => RowAt.load 6 Tryz.hT rfl ((fun W hp => hbp.hp hp) W hp) rfl) ?_ | refine wl_load rfl rfl rfl rfl (fun W hp => RowAt.load 7 Tryz.hT rfl ((fun W hp => hbp.hp hp) W hp) rfl) ?_ | refine wq_load rfl rfl rfl rfl (fun W hp => RowAt.load 0 Tryz.hT rfl ((fun W hp => hbp.hp hp) W hp) rfl) ?_ | refine wq_load rfl rfl rfl rfl (fun W hp => RowAt.load 1 Tryz.hT rfl ((fun W hp => hbp.hp hp) W hp) rfl) ?_ | refine wq_load rfl rfl rfl rfl (fun W hp => RowAt.load 2 Tryz.hT rfl ((fun W hp => hbp.hp hp) W hp) rfl) ?_ | refine wq_load rfl rfl rfl rfl (fun W hp => RowAt.load 3 Tryz.hT rfl ((fun W hp => hbp.hp hp) W hp) rfl) ?_ | refine wq_load rfl rfl rfl rfl (fun W hp => RowAt.load 4 Tryz.hT rfl ((fun W hp => hbp.hp hp) W hp) rfl) ?_ | refine wq_load rfl rfl rfl rfl (fun W hp => RowAt.load 5 Tryz.hT rfl ((fun W hp => hbp.hp hp) W hp) rfl) ?_ | refine wq_load rfl rfl rfl rfl (fun W hp => RowAt.load 6 Tryz.hT rfl ((fun W hp => hbp.hp hp) W hp) rfl) ?_ | refine wq_load rfl rfl rfl rfl (fun W hp => RowAt.load 7 Tryz.hT rfl ((fun W hp => hbp.hp hp) W hp) rfl) ?_)
  refine wl_pure Tryz.hT rfl rfl rfl ?_
  refine wl_pure Tryz.hT rfl rfl rfl ?_
  refine wl_nil ?_
  repeat (first | refine zA ?_ | refine zB ?_ | refine zC ?_ | refine zD ?_ | refine zE ?_ | refine zF ?_ | refine zG ?_ | refine zH ?_ | refine zI ?_ | refine zJ ?_ | refine zK ?_ | refine zL ?_ | refine zM rfl ?_ | refine zN ?_ | refine zO ?_ | refine zP ?_ | refine zQ ?_ | refine zR rfl ?_ | refine zS rfl ?_ | refine zT Tryz.mixed (by kernel_rfl) ?_)
  refine wc_newGone ?_
  refine wc_newGrp ?_
  refine wc_loop (X := Nat × Vec × Made) (fun x => [(1, .pointer (some ⟨b1, 0, none⟩)), (2, .pointer (some ⟨b2, 0, none⟩)), (6, slv p rs.length cap), (7, .int .i64 (rs.length : Nat)), (8, .int .i64 (x.1 : Nat))])
    (fun x => [⟨b1, 24, [slv none 0 0], true, none⟩, ⟨b2, 24, [x.2.1.val x.1], true, none⟩, x.2.1.bx 27 (rowCells x.2.2), mkB x.2.2])
    (fun x => x.1 ≤ rs.length ∧ MadeOK x.2.2 (rs.take x.1) ∧ x.2.1.OK 1 x.1 (rowCells x.2.2)) (fun x => rs.length - x.1) (0, Vec.empty, []) ⟨Nat.zero_le _, ⟨rfl, fun p hp => by cases hp⟩, Vec.OK.empty 1⟩ ⟨rfl, rfl, rfl, rfl, rfl, trivial⟩ [] rfl ?_
  rintro ⟨k, V, mk⟩ ⟨hk0, hmk0, hV0⟩
  have hk : k ≤ rs.length := hk0
  have hmk : MadeOK mk (rs.take k) := hmk0
  have hV : V.OK 1 k (rowCells mk) := hV0
  clear hk0 hmk0 hV0
  repeat (first | refine zA ?_ | refine zB ?_ | refine zC ?_ | refine zD ?_ | refine zE ?_ | refine zF ?_ | refine zG ?_ | refine zH ?_ | refine zI ?_ | refine zJ ?_ | refine zK ?_ | refine zL ?_ | refine zM rfl ?_ | refine zN ?_ | refine zO ?_ | refine zP ?_ | refine zQ ?_ | refine zR rfl ?_ | refine zS rfl ?_ | refine zT Tryz.mixed (by kernel_rfl) ?_)
  refine wl_pure Tryz.hT rfl rfl rfl ?_
  refine wl_nil ?_
  repeat (first | refine zA ?_ | refine zB ?_ | refine zC ?_ | refine zD ?_ | refine zE ?_ | refine zF ?_ | refine zG ?_ | refine zH ?_ | refine zI ?_ | refine zJ ?_ | refine zK ?_ | refine zL ?_ | refine zM rfl ?_ | refine zN ?_ | refine zO ?_ | refine zP ?_ | refine zQ ?_ | refine zR rfl ?_ | refine zS rfl ?_ | refine zT Tryz.mixed (by kernel_rfl) ?_)
  refine wc_cond rfl (fun h => ?_) (fun h => ?_)
  rotate_left
  · have e : k = rs.length := by simp at h; omega
    subst e
    have ev := Vec.val_eq hV
    repeat (first | refine zA ?_ | refine zB ?_ | refine zC ?_ | refine zD ?_ | refine zE ?_ | refine zF ?_ | refine zG ?_ | refine zH ?_ | refine zI ?_ | refine zJ ?_ | refine zK ?_ | refine zL ?_ | refine zM rfl ?_ | refine zN ?_ | refine zO ?_ | refine zP ?_ | refine zQ ?_ | refine zR rfl ?_ | refine zS rfl ?_ | refine zT Tryz.mixed (by kernel_rfl) ?_)
    (first | refine wl_loadBx 0 Tryz.hT rfl rfl rfl rfl rfl rfl rfl rfl ?_ | refine wl_loadBx 1 Tryz.hT rfl rfl rfl rfl rfl rfl rfl rfl ?_ | refine wl_loadBx 2 Tryz.hT rfl rfl rfl rfl rfl rfl rfl rfl ?_ | refine wl_loadBx 3 Tryz.hT rfl rfl rfl rfl rfl rfl rfl rfl ?_ | refine wl_loadBx 4 Tryz.hT rfl rfl rfl rfl rfl rfl rfl rfl ?_ | refine wl_loadBx 5 Tryz.hT rfl rfl rfl rfl rfl rfl rfl rfl ?_)
    refine wl_upd 20 (.agg #[.slice (V.p.map fun g => ⟨g, 0, none⟩) rs.length (match V.p with | none => 0 | some _ => V.cap)]) rfl (congrArg (fun v => Value.agg #[v]) ev) ?_
    (first | refine wl_storeBx 0 Tryz.hT rfl rfl rfl rfl rfl rfl rfl rfl rfl rfl rfl ?_ | refine wl_storeBx 1 Tryz.hT rfl rfl rfl rfl rfl rfl rfl rfl rfl rfl rfl ?_ | refine wl_storeBx 2 Tryz.hT rfl rfl rfl rfl rfl rfl rfl rfl rfl rfl rfl ?_ | refine wl_storeBx 3 Tryz.hT rfl rfl rfl rfl rfl rfl rfl rfl rfl rfl rfl ?_ | refine wl_storeBx 4 Tryz.hT rfl rfl rfl rfl rfl rfl rfl rfl rfl rfl rfl ?_ | refine wl_storeBx 5 Tryz.hT rfl rfl rfl rfl rfl rfl rfl rfl rfl rfl rfl ?_)
    refine wl_nil ?_
    repeat (first | refine zA ?_ | refine zB ?_ | refine zC ?_ | refine zD ?_ | refine zE ?_ | refine zF ?_ | refine zG ?_ | refine zH ?_ | refine zI ?_ | refine zJ ?_ | refine zK ?_ | refine zL ?_ | refine zM rfl ?_ | refine zN ?_ | refine zO ?_ | refine zP ?_ | refine zQ ?_ | refine zR rfl ?_ | refine zS rfl ?_ | refine zT Tryz.mixed (by kernel_rfl) ?_)
    rw [List.take_length] at hmk
    exact ne_ret1 Tryz.hT rfl (.cell 0 rfl rfl rfl rfl rfl) (V, mk) (congrArg (fun v => Value.agg #[v]) ev.symm) ⟨hmk, hV⟩ fun W hp => (hp.pick [2, 3] (by decide) rfl).own
  have hk : k < rs.length := by simp at h; omega
  clear h
  obtain ⟨b, off, rfl, hrow⟩ := hR.row hk
  obtain ⟨q, cap2, hq1, hq2⟩ := hrow k hk
  have hlk := hl _ (List.mem_of_getElem? (rg_get hk))
  have hnek := hne _ (List.mem_of_getElem? (rg_get hk))
  repeat (first | refine zA ?_ | refine zB ?_ | refine zC ?_ | refine zD ?_ | refine zE ?_ | refine zF ?_ | refine zG ?_ | refine zH ?_ | refine zI ?_ | refine zJ ?_ | refine zK ?_ | refine zL ?_ | refine zM rfl ?_ | refine zN ?_ | refine zO ?_ | refine zP ?_ | refine zQ ?_ | refine zR rfl ?_ | refine zS rfl ?_ | refine zT Tryz.mixed (by kernel_rfl) ?_)
  (first | refine wl_indexAddr Tryz.hT rfl rfl rfl rfl rfl rfl rfl (by omega) (by omega) ?_ | refine wq_indexAddr Tryz.hT rfl rfl rfl rfl rfl rfl rfl (by omega) (by omega) ?_)
  (first | refine wl_load rfl rfl rfl rfl (fun W hp => RowAt.load 0 Tryz.hT rfl ((fun W hp => hq1.hp hp) W hp) rfl) ?_ | refine wl_load rfl rfl rfl rfl (fun W hp => RowAt.load 1 Tryz.hT rfl ((fun W hp => hq1.hp hp) W hp) rfl) ?_ | refine wl_load rfl rfl rfl rfl (fun W hp => RowAt.load 2 Tryz.hT rfl ((fun W hp => hq1.hp hp) W hp) rfl) ?_ | refine wl_load rfl rfl rfl rfl (fun W hp => RowAt.load 3 Tryz.hT rfl ((fun W hp => hq1.hp hp) W hp) rfl) ?_ | refine wl_load rfl rfl rfl rfl (fun W hp => RowAt.load 4 Tryz.hT rfl ((fun W hp => hq1.hp hp) W hp) rfl) ?_ | refine wl_load rfl rfl rfl rfl (fun W hp => RowAt.load 5 Tryz.hT rfl ((fun W hp => hq1.hp hp) W hp) rfl) ?_ | refine wl_load rfl rfl rfl rfl (fun W hp => RowAt.load 6 Tryz.hT rfl ((fun W hp => hq1.hp hp) W hp) rfl) ?_ | refine wl_load rfl rfl rfl rfl (fun W hp => RowAt.load 7 Tryz.hT rfl ((fun W hp => hq1.hp hp) W hp) rfl) ?_ | refine wq_load rfl rfl rfl rfl (fun W hp => RowAt.load 0 Tryz.hT rfl ((fun W hp => hq1.hp hp) W hp) rfl) ?_ | refine wq_load rfl rfl rfl rfl (fun W hp => RowAt.load 1 Tryz.hT rfl ((fun W hp => hq1.hp hp) W hp) rfl) ?_ | refine wq_load rfl rfl rfl rfl (fun W hp => RowAt.load 2 Tryz.hT rfl ((fun W hp => hq1.hp hp) W hp) rfl) ?_ | refine wq_load rfl rfl rfl rfl (fun W hp => RowAt.load 3 Tryz.hT rfl ((fun W hp => hq1.hp hp) W hp) rfl) ?_ | refine wq_load rfl rfl rfl rfl (fun W hp => RowAt.load 4 Tryz.hT rfl ((fun W hp => hq1.hp hp) W hp) rfl) ?_ | refine wq_load rfl rfl rfl rfl (fun W hp => RowAt.load 5 Tryz.hT rfl ((fun W hp => hq1.hp hp) W hp) rfl) ?_ | refine wq_load rfl rfl rfl rfl (fun W hp => RowAt.load 6 Tryz.hT rfl ((fun W hp => hq1.hp hp) W hp) rfl) ?_ | refine wq_load rfl rfl rfl rfl (fun W hp => RowAt.load 7 Tryz.hT rfl ((fun W hp => hq1.hp hp) W hp) rfl) ?_)
  refine wl_pure Tryz.hT rfl rfl rfl ?_
  refine wl_nil ?_
  repeat (first | refine zC ?_ | refine zD ?_ | refine zE ?_ | refine zF ?_ | refine zG ?_ | refine zH ?_ | refine zI ?_ | refine zJ ?_ | refine zK ?_ | refine zL ?_ | refine zM rfl ?_ | refine zN ?_ | refine zO ?_ | refine zP ?_ | refine zQ ?_ | refine zR rfl ?_ | refine zS rfl ?_)
  refine wc_lateX (X := { x : Vec × Vec // x.1.OK 1 (k + 1) (rowCells (mk ++ [(x.2, rg rs k)])) ∧ x.2.OK 7 (rg rs k).length (cellsOf (rg rs k)) }) (fun _ => [(1, .pointer (some ⟨b1, 0, none⟩)), (2, .pointer (some ⟨b2, 0, none⟩)), (6, slv (some ⟨b, off, none⟩) rs.length cap), (7, .int .i64 (rs.length : Nat)), (8, .int .i64 (k : Nat))])
    (fun x => [⟨b1, 24, [slv none 0 0], true, none⟩, ⟨b2, 24, [x.1.1.val (k + 1)], true, none⟩, x.1.1.bx 27 (rowCells (mk ++ [(x.1.2, rg rs k)])), mkB mk, x.1.2.bx 42 (cellsOf (rg rs k))])
    5 [⟨b1, 24, [slv none 0 0], true, none⟩, ⟨b2, 24, [V.val k], true, none⟩, gone, gone] Tryz.mixed (by kernel_rfl) ?_ ?_
  · refine wq_pure Tryz.hT rfl rfl rfl ?_
    (first | refine wq_loadBx 0 Tryz.hT rfl rfl rfl rfl rfl rfl rfl rfl ?_ | refine wq_loadBx 1 Tryz.hT rfl rfl rfl rfl rfl rfl rfl rfl ?_ | refine wq_loadBx 2 Tryz.hT rfl rfl rfl rfl rfl rfl rfl rfl ?_ | refine wq_loadBx 3 Tryz.hT rfl rfl rfl rfl rfl rfl rfl rfl ?_ | refine wq_loadBx 4 Tryz.hT rfl rfl rfl rfl rfl rfl rfl rfl ?_ | refine wq_loadBx 5 Tryz.hT rfl rfl rfl rfl rfl rfl rfl rfl ?_)
    refine wq_pure Tryz.hT rfl rfl rfl ?_
    refine wq_wt ?_
    first | refine wt_step rfl rfl (by ((repeat (first | refine Weak.same ?_ | refine Weak.off rfl ?_)); exact trivial)) ?_ | refine wt_stepF rfl rfl (by kernel_rfl) ?_
    refine RS.cons ?_ (RS.nil)
    refine wl_call (X := Vec) rfl rfl rfl rfl rfl rfl (by kernel_rfl) (fun W hp => clone_gives W q cap2 (rg rs k) hlk (hq2.hp hp) hnek) ?_; rintro ⟨pU, capU, junk⟩ ⟨hU0, hUp⟩; obtain ⟨gU, rfl⟩ : ∃ g, pU = some g := by { cases pU with | none => exact absurd rfl hUp | some g => exact ⟨g, rfl⟩ }
    refine wl_nil ?_
    refine ne_wt ?_
    first | refine wt_step rfl rfl (by ((repeat (first | refine Weak.same ?_ | refine Weak.off rfl ?_)); exact trivial)) ?_ | refine wt_stepF rfl rfl (by kernel_rfl) ?_
    refine RS.cons ?_ (RS.nil)
    (refine wl_buildRowZ Tryz.hZ Tryz.hT rfl rfl rfl rfl rfl rfl rfl rfl rfl rfl rfl ?_; intro)
    refine wl_nil ?_
    refine ne_wt ?_
    first | refine wt_step rfl rfl (by ((repeat (first | refine Weak.same ?_ | refine Weak.off rfl ?_)); exact trivial)) ?_ | refine wt_stepF rfl rfl (by kernel_rfl) ?_
    refine RS.cons ?_ (RS.nil)
    refine wl_appendTo (V := V) (xs := rowCells mk) (len := k) 2 5 Tryz.vec22 (k + 1) (rowCells (mk ++ [((⟨some gU, capU, junk⟩ : Vec), rg rs k)])) rfl rfl rfl rfl rfl rfl rfl rfl rfl rfl rfl hV rfl rfl rfl (by rw [rowCells_snoc]; rfl) (by simp only [maxLen]; omega) (by omega) rfl ?_; intro g1 c1 j1 hV1
    refine wl_nil ?_
    refine ne_wt ?_
    first | refine wt_step rfl rfl (by ((repeat (first | refine Weak.same ?_ | refine Weak.off rfl ?_)); exact trivial)) ?_ | refine wt_stepF rfl rfl (by kernel_rfl) ?_
    refine RS.cons ?_ (RS.nil)
    refine wl_pure Tryz.hT rfl rfl rfl ?_
    refine wl_nil ?_
    refine ne_wt ?_
    first | refine wt_step rfl rfl (by ((repeat (first | refine Weak.same ?_ | refine Weak.off rfl ?_)); exact trivial)) ?_ | refine wt_stepF rfl rfl (by kernel_rfl) ?_
    refine RS.cons ?_ (RS.nil)
    refine wl_storeBx 1 Tryz.hT rfl rfl rfl rfl rfl rfl rfl rfl rfl rfl rfl ?_
    refine wl_nil ?_
    refine ne_wt ?_
    first | refine wt_done rfl (by ((repeat (first | refine Weak.same ?_ | refine Weak.off rfl ?_)); exact trivial)) ?_ | refine wt_doneF rfl (by kernel_rfl) ?_
    exact ne_late ⟨(⟨some g1, c1, j1⟩, ⟨some gU, capU, junk⟩), hV1, hU0⟩ ⟨rfl, rfl, rfl, rfl, rfl, trivial⟩ [0, 1, 2, 3, 4] (by decide) rfl
  rintro ⟨⟨V1, U⟩, hV1, hU⟩
  have htk : rs.take (k + 1) = rs.take k ++ [rg rs k] := by rw [List.take_add_one, rg_get hk]; simp
  repeat (first | refine zA ?_ | refine zB ?_ | refine zC ?_ | refine zD ?_ | refine zE ?_ | refine zF ?_ | refine zG ?_ | refine zH ?_ | refine zI ?_ | refine zJ ?_ | refine zK ?_ | refine zL ?_ | refine zM rfl ?_ | refine zN ?_ | refine zO ?_ | refine zP ?_ | refine zQ ?_ | refine zR rfl ?_ | refine zS rfl ?_ | refine zT Tryz.mixed (by kernel_rfl) ?_)
  refine wl_pure Tryz.hT rfl rfl rfl ?_
  refine wl_pure Tryz.hT rfl rfl rfl ?_
  refine wl_nil ?_
  repeat (first | refine zA ?_ | refine zB ?_ | refine zC ?_ | refine zD ?_ | refine zE ?_ | refine zF ?_ | refine zG ?_ | refine zH ?_ | refine zI ?_ | refine zJ ?_ | refine zK ?_ | refine zL ?_ | refine zM rfl ?_ | refine zN ?_ | refine zO ?_ | refine zP ?_ | refine zQ ?_ | refine zR rfl ?_ | refine zS rfl ?_ | refine zT Tryz.mixed (by kernel_rfl) ?_)
  refine ne_join 3 4 (mkB (mk ++ [(U, rg rs k)])) rfl rfl rfl (mkB_snoc mk _ _) ?_
  exact ne_loop (k + 1, V1, mk ++ [(U, rg rs k)]) ⟨hk, htk ▸ hmk.snoc hU, hV1⟩ (by show rs.length - (k + 1) < rs.length - k; omega) ⟨rfl, rfl, rfl, rfl, congrArg (fun z => some (Value.int .i64 z)) (wrap_id (x := (k : Int) + 1) (by omega) (by omega)), trivial⟩ [gone] rfl
end Go.Proofs.YtnpfkmbcejgnjaaGreatDoor
