/-
  PlanCanonical returns true.
-/
import Derived.Test.YtnpfkmbcejgnjaaGreatDoorCanWalk
import Derived.Test.YtnpfkmbcejgnjaaGreatDoorCanUse
import Derived.Test.YtnpfkmbcejgnjaaGreatDoorConcatQ
import Derived.Test.YtnpfkmbcejgnjaaGreatDoorAwake
import Derived.Test.YtnpfkmbcejgnjaaGreatDoorSdEq
namespace Go.Proofs.YtnpfkmbcejgnjaaGreatDoor
open Go Go.RowKit Go.Am Go.Lib
set_option maxRecDepth 10000
-- BOXES 4
-- BOXIDX t2=0 t5=4 t8=8 t11=9 t15=15
def rotm (m : Nat) (l : List Sd) : List Sd := rot l (m % l.length)
theorem othR_eq (rs : List (List Sd)) (m : Nat) : othR rs m = (rs.map (rotm m)).take 1 ++ ((rs.map (rotm m)).drop 1).reverse := rfl
theorem othR_len (rs : List (List Sd)) (m : Nat) : (othR rs m).length = rs.length := by
  rw [othR_eq, List.length_append, List.length_reverse, ← List.length_append, List.take_append_drop, List.length_map]
set_option maxHeartbeats 16000000 in
theorem canon_gives (W : World) (p : Option Addr) (cap : Nat) (rs : List (List Sd)) (n : Int) (hn : rs.length < 4611686018427387904) (hT : tot rs < 4611686018427387904) (hR : RingsP W p rs) (ht : TabP W) (hroom : RoomP W p rs.length) (hz : 0 ≤ n ∧ n ≤ 255) :
    CallsR Tryz.prog 10 #[planV p rs.length cap, .int .u8 n] W (fun _ : Unit => .bool true) (fun _ => True) (fun _ => []) := by
  refine calls_enter (args := [planV p rs.length cap, .int .u8 n]) Tryz.func10 rfl rfl rfl ?_
  refine zA ?_
  refine zB ?_
  (refine wl_box rfl rfl rfl rfl ?_; intro)
  refine wl_pure Tryz.hT rfl rfl rfl ?_
  refine wl_nil ?_
  rename_i b2
  refine zE ?_
  refine zA ?_
  refine zA ?_
  refine zB ?_
  refine wl_loadBx 0 Tryz.hT rfl rfl rfl rfl rfl rfl rfl rfl ?_
  refine wl_call1 rfl rfl rfl rfl rfl rfl (by kernel_rfl) (fun W hp => fine_gives W p cap rs hn hT (hR.hp hp)) ?_
  refine wl_pure Tryz.hT rfl rfl rfl ?_
  refine wl_nil ?_
  refine zE ?_
  refine wc_cond rfl (fun hfine => ?_) (fun hfine => ?_)
  · refine zA ?_
    refine zB ?_
    refine wl_call1 rfl rfl rfl rfl rfl rfl (by kernel_rfl) (fun W hp => awake_gives W (ht.hp hp)) ?_
    refine wl_pure Tryz.hT rfl rfl rfl ?_
    refine wl_nil ?_
    refine zE ?_
    refine zO ?_
    refine zP ?_
    exact ne_ret1 Tryz.hT rfl (.tmp rfl) () rfl trivial fun W _ => NewBx.nil _ _
  have hfine : fineB rs = true := by simpa using hfine
  unfold fineB at hfine
  obtain ⟨hg0, hc0⟩ := Bool.and_eq_true_iff.1 hfine
  have hc : chk rs = 0 := by simpa using hc0
  obtain ⟨hne, h24, h0⟩ := chk_ne hc
  have h12 : tot rs ≤ 12 := by
    have h1 : grt rs 12 = false := by simpa using hg0
    unfold grt at h1
    simp only [Bool.or_eq_false_iff, Bool.and_eq_false_iff, decide_eq_false_iff_not] at h1
    omega
  clear hfine hc0 hg0
  have h3 := rings3 hc h12
  obtain ⟨m, rfl⟩ : ∃ m : Nat, n = m := ⟨n.toNat, by omega⟩
  have hm : m ≤ 255 := by omega
  have hcl : (canR rs).length = rs.length := (canR_order hc h12).1
  have hcc := canR_chk hc h12
  have hct := canR_tot rs
  have hci := canR_canR hc h12
  have hco := olds_canR hc h12
  have hoc := othR_chk hc h12 m
  have hot := othR_tot (rs := rs) m
  have hoi := canR_oth hc h12 m
  have hol := othR_len rs m
  refine zI ?_
  refine zE ?_
  refine zA ?_
  refine zB ?_
  refine wl_loadBx 0 Tryz.hT rfl rfl rfl rfl rfl rfl rfl rfl ?_
  refine wl_call (X := Vec × Made × Nat) rfl rfl rfl rfl rfl rfl (by kernel_rfl) (fun W hp => canonical_gives W p cap rs (by omega) (hR.hp hp) hc h12) ?_
  rintro ⟨⟨pv1, cp1, jk1⟩, mk1, bN1⟩ ⟨hmk1, hV1⟩
  have hmk1 : MadeOK mk1 (canR rs) := hmk1
  cases pv1 with
  | none => have := hV1.nil rfl; omega
  | some g1 =>
  have hV1 : (⟨some g1, cp1, jk1⟩ : Vec).OK 1 (canR rs).length (rowCells mk1) := hV1
  refine wl_pure Tryz.hT rfl rfl rfl ?_
  refine wl_pure Tryz.hT rfl rfl rfl ?_
  refine wl_pure Tryz.hT rfl rfl rfl ?_
  refine wl_pure Tryz.hT rfl rfl rfl ?_
  (refine wl_allocZ Tryz.hZ rfl rfl rfl rfl ?_; intro)
  refine wl_storeBx 4 Tryz.hT rfl rfl rfl rfl rfl rfl rfl rfl rfl rfl rfl ?_
  refine wl_pure Tryz.hT rfl rfl rfl ?_
  refine wl_pure Tryz.hT rfl rfl rfl ?_
  refine wl_nil ?_
  rename_i b5
  refine zE ?_
  refine zA ?_
  refine zB ?_
  refine wl_loadBx 4 Tryz.hT rfl rfl rfl rfl rfl rfl rfl rfl ?_
  refine wl_call (X := Vec × Made × Nat) rfl rfl rfl rfl rfl rfl (by kernel_rfl) (fun W hp => canonical_gives W (some ⟨g1, 0, none⟩) cp1 (canR rs) (by omega) (rings_at hmk1 rfl hV1 hp 1 2 rfl rfl) hcc (by omega)) ?_
  rintro ⟨⟨pv2, cp2, jk2⟩, mk2, bN2⟩ ⟨hmk2, hV2⟩
  have hmk2 : MadeOK mk2 (canR (canR rs)) := hmk2
  cases pv2 with
  | none => have := hV2.nil rfl; rw [hci] at this; omega
  | some g2 =>
  have hV2 : (⟨some g2, cp2, jk2⟩ : Vec).OK 1 (canR (canR rs)).length (rowCells mk2) := hV2
  refine wl_pure Tryz.hT rfl rfl rfl ?_
  refine wl_pure Tryz.hT rfl rfl rfl ?_
  refine wl_pure Tryz.hT rfl rfl rfl ?_
  refine wl_pure Tryz.hT rfl rfl rfl ?_
  (refine wl_allocZ Tryz.hZ rfl rfl rfl rfl ?_; intro)
  refine wl_storeBx 8 Tryz.hT rfl rfl rfl rfl rfl rfl rfl rfl rfl rfl rfl ?_
  refine wl_pure Tryz.hT rfl rfl rfl ?_
  refine wl_pure Tryz.hT rfl rfl rfl ?_
  refine wl_nil ?_
  rename_i b8
  refine zE ?_
  refine zA ?_
  refine zB ?_
  (refine wl_allocZ Tryz.hZ rfl rfl rfl rfl ?_; intro)
  refine wl_nil ?_
  rename_i b11
  refine zE ?_
  refine zA ?_
  refine zA ?_
  refine zB ?_
  refine wl_pure Tryz.hT rfl rfl rfl ?_
  refine wl_loadBx 0 Tryz.hT rfl rfl rfl rfl rfl rfl rfl rfl ?_
  refine wl_pure Tryz.hT rfl rfl rfl ?_
  refine wl_pure Tryz.hT rfl rfl rfl ?_
  refine wl_nil ?_
  refine zE ?_
  refine zH ?_
  refine wc_newGone ?_
  refine wc_newGrp ?_
  refine wc_loop (X := Nat × Vec × Made) (fun x => [(1, .int .u8 (m : Nat)), (2, .pointer (some ⟨b2, 0, none⟩)), (5, .pointer (some ⟨b5, 0, none⟩)), (6, .slice (some ⟨bN1, 0, none⟩) (tot rs) (tot rs)), (7, .int .i64 0), (8, .pointer (some ⟨b8, 0, none⟩)), (9, .slice (some ⟨bN2, 0, none⟩) (tot (canR rs)) (tot (canR rs))), (10, .int .i64 0), (11, .pointer (some ⟨b11, 0, none⟩)), (42, slv p rs.length cap), (43, .int .i64 (rs.length : Nat)), (44, .int .i64 (x.1 : Nat))])
    (fun x => [⟨b2, 24, [slv p rs.length cap], true, none⟩, ⟨g1, 27, rowCells mk1 ++ jk1, true, none⟩, mkB mk1, ⟨bN1, 3, ci (numsOf rs), true, none⟩, ⟨b5, 24, [slv (some ⟨g1, 0, none⟩) (canR rs).length cp1], true, none⟩, ⟨g2, 27, rowCells mk2 ++ jk2, true, none⟩, mkB mk2, ⟨bN2, 3, ci (numsOf (canR rs)), true, none⟩, ⟨b8, 24, [slv (some ⟨g2, 0, none⟩) (canR (canR rs)).length cp2], true, none⟩,
      ⟨b11, 24, [x.2.1.val x.1], true, none⟩, x.2.1.bx 27 (rowCells x.2.2), mkB x.2.2])
    (fun x => x.1 ≤ rs.length ∧ MadeOK x.2.2 ((rs.take x.1).map (rotm m)) ∧ x.2.1.OK 1 x.1 (rowCells x.2.2)) (fun x => rs.length - x.1) (0, Vec.empty, []) ⟨Nat.zero_le _, ⟨rfl, fun p hp => by cases hp⟩, Vec.OK.empty 1⟩ ⟨rfl, rfl, rfl, rfl, rfl, rfl, rfl, rfl, rfl, rfl, rfl, rfl, trivial⟩ [] rfl ?_
  rintro ⟨k, V, mk⟩ ⟨hk, hmk, hV⟩
  change k ≤ rs.length at hk
  change MadeOK mk ((rs.take k).map (rotm m)) at hmk
  change V.OK 1 k (rowCells mk) at hV
  refine zA ?_
  refine zB ?_
  refine wl_pure Tryz.hT rfl rfl rfl ?_
  refine wl_nil ?_
  refine zE ?_
  refine zA ?_
  refine wc_cond rfl (fun h => ?_) (fun h => ?_)
  · have hk : k < rs.length := by have h' : decide ((k : Int) < (rs.length : Nat)) = true := h; rw [decide_eq_true_iff] at h'; omega
    clear h
    obtain ⟨b, off, rfl, hrow⟩ := hR.row hk
    obtain ⟨q, cap2, hq1, hq2⟩ := hrow k hk
    have hcap2 : (rg rs k).length ≤ cap2 := hroom b off rfl k q _ cap2 hk hq1
    have t2 := tot_take_le rs (k + 1)
    have t1 := tot_take_succ hk
    have hlk : 0 < (rg rs k).length := List.length_pos_iff.2 (hne _ (List.mem_of_getElem? (rg_get hk)))
    obtain ⟨bq, oq, rfl, hrq⟩ := hq2.row hlk
    have hra : RingAt W bq oq (rg rs k) := by
      rcases hq2 with h | ⟨b3, o3, e, h⟩
      · rw [h] at hlk; exact absurd hlk (Nat.lt_irrefl _)
      · cases e; exact h
    obtain ⟨t, htm⟩ : ∃ t, t = m % (rg rs k).length := ⟨_, rfl⟩
    have hlt : t < (rg rs k).length := by rw [htm]; exact Nat.mod_lt _ hlk
    have htk : (rs.take (k + 1)).map (rotm m) = (rs.take k).map (rotm m) ++ [rot (rg rs k) t] := by rw [List.take_add_one, rg_get hk, htm]; simp [rotm]
    have hw0 : IntKind.i64.wrap ((m : Nat) : Int) = ((m : Nat) : Int) := wrap_id (by omega) (by omega)
    refine zI ?_
    refine zE ?_
    refine zA ?_
    refine zH ?_
    refine zA ?_
    refine zB ?_
    refine wl_indexAddr Tryz.hT rfl rfl rfl rfl rfl rfl rfl (by omega) (by omega) ?_
    refine wl_load rfl rfl rfl rfl (fun W hp => RowAt.load 0 Tryz.hT rfl ((fun W hp => hq1.hp hp) W hp) rfl) ?_
    refine wl_pure Tryz.hT rfl rfl rfl ?_
    refine wl_nil ?_
    refine zE ?_
    refine zA ?_
    refine zB ?_
    refine wl_pure Tryz.hT rfl rfl rfl ?_
    refine wl_cvA Tryz.underlying5 Tryz.underlying3 rfl rfl rfl rfl ?_
    refine wl_pure Tryz.hT rfl rfl rfl ?_
    refine wl_pure Tryz.hT rfl rfl rfl ?_
    refine wl_rem rfl rfl rfl rfl rfl (by omega) ?_
    refine wl_upd 52 (.int .i64 (t : Nat)) rfl (congrArg (Value.int .i64) ((congrArg (fun z => Int.tmod z (((rg rs k).length : Nat) : Int)) hw0).trans (by rw [htm]; rfl))) ?_
    refine wl_pure Tryz.hT rfl rfl rfl ?_
    refine wl_nil ?_
    refine zE ?_
    have hrl : (rot (rg rs k) t).length = (rg rs k).length := rot_len ..
    refine wc_lateY (X := { x : Vec × Vec // x.1.OK 1 (k + 1) (rowCells (mk ++ [(x.2, rot (rg rs k) t)])) ∧ x.2.OK 7 (rot (rg rs k) t).length (cellsOf (rot (rg rs k) t)) }) [true, true, true, true, false, true, true, false, false, false, false, false, false, false] (fun _ => [(1, .int .u8 (m : Nat)), (2, .pointer (some ⟨b2, 0, none⟩)), (5, .pointer (some ⟨b5, 0, none⟩)), (6, .slice (some ⟨bN1, 0, none⟩) (tot rs) (tot rs)), (7, .int .i64 0), (8, .pointer (some ⟨b8, 0, none⟩)), (9, .slice (some ⟨bN2, 0, none⟩) (tot (canR rs)) (tot (canR rs))), (10, .int .i64 0), (11, .pointer (some ⟨b11, 0, none⟩)), (42, slv (some ⟨b, off, none⟩) rs.length cap), (43, .int .i64 (rs.length : Nat)), (44, .int .i64 (k : Nat))])
      (fun x => [⟨b2, 24, [slv (some ⟨b, off, none⟩) rs.length cap], true, none⟩, ⟨g1, 27, rowCells mk1 ++ jk1, true, none⟩, mkB mk1, ⟨bN1, 3, ci (numsOf rs), true, none⟩, ⟨b5, 24, [slv (some ⟨g1, 0, none⟩) (canR rs).length cp1], true, none⟩, ⟨g2, 27, rowCells mk2 ++ jk2, true, none⟩, mkB mk2, ⟨bN2, 3, ci (numsOf (canR rs)), true, none⟩, ⟨b8, 24, [slv (some ⟨g2, 0, none⟩) (canR (canR rs)).length cp2], true, none⟩, ⟨b11, 24, [x.1.1.val (k + 1)], true, none⟩, x.1.1.bx 27 (rowCells (mk ++ [(x.1.2, rot (rg rs k) t)])), mkB mk, x.1.2.bx 42 (cellsOf (rot (rg rs k) t))])
      8 [gone, gone, gone, gone, gone, gone, gone, gone, gone, ⟨b11, 24, [V.val k], true, none⟩, gone, gone] Tryz.mixed (by kernel_rfl) ?_ ?_
    · refine wq_pure Tryz.hT rfl rfl rfl ?_
      refine wq_loadBx 9 Tryz.hT rfl rfl rfl rfl rfl rfl rfl rfl ?_
      refine wq_pure Tryz.hT rfl rfl rfl ?_
      refine wq_pure Tryz.hT rfl rfl rfl ?_
      refine wq_pure Tryz.hT rfl rfl rfl ?_
      refine wq_pure Tryz.hT rfl rfl rfl ?_
      refine wq_wt ?_
      refine wt_step rfl rfl (by ((repeat (first | refine Weak.same ?_ | refine Weak.off rfl ?_)); exact trivial)) ?_
      refine RS.cons ?_ (RS.cons ?_ (RS.nil))
      · refine wl_slice_l t Tryz.hT rfl rfl rfl rfl rfl rfl rfl rfl (by show t ≤ (rg rs k).length; omega) hcap2 ?_
        refine wl_nil ?_
        refine ne_wt ?_
        refine wt_step rfl rfl (by ((repeat (first | refine Weak.same ?_ | refine Weak.off rfl ?_)); exact trivial)) ?_
        refine RS.cons ?_ (RS.nil)
        refine wl_slice_h t Tryz.hT rfl rfl rfl rfl rfl rfl rfl rfl (by omega) ?_
        refine wl_nil ?_
        refine ne_wt ?_
        refine wt_step rfl rfl (by ((repeat (first | refine Weak.same ?_ | refine Weak.off rfl ?_)); exact trivial)) ?_
        refine RS.cons ?_ (RS.nil)
        (refine wl_buildRowZ Tryz.hZ Tryz.hT rfl rfl rfl rfl rfl rfl rfl rfl rfl rfl rfl ?_; intro)
        refine wl_nil ?_
        refine ne_wt ?_
        refine wt_step rfl rfl (by ((repeat (first | refine Weak.same ?_ | refine Weak.off rfl ?_)); exact trivial)) ?_
        refine RS.cons ?_ (RS.nil)
        refine wl_call (X := Vec) rfl rfl rfl rfl rfl rfl (by kernel_rfl) (fun W1 hp => concat2_gives W1 _ 2 (rg rs k) t (by omega) (by omega) bq bq _ oq _ cap2 (RowAt.of_bx hp 12 rfl rfl) (by rw [if_neg (show ¬ cap2 = t by omega)]; exact ringAt_drop ⟨fun i s hs => (hra.get i s hs).hp hp⟩ t) (ringAt_take ⟨fun i s hs => (hra.get i s hs).hp hp⟩ t)) ?_; rintro ⟨pU, capU, junk⟩ hU0; obtain ⟨gU, rfl⟩ : ∃ g, pU = some g := by { cases pU with | none => (have := hU0.nil rfl; omega) | some g => exact ⟨g, rfl⟩ }
        refine wl_nil ?_
        refine ne_wt ?_
        refine wt_step rfl rfl (by ((repeat (first | refine Weak.same ?_ | refine Weak.off rfl ?_)); exact trivial)) ?_
        refine RS.cons ?_ (RS.nil)
        (refine wl_buildRowZ Tryz.hZ Tryz.hT rfl rfl rfl rfl rfl rfl rfl rfl rfl rfl rfl ?_; intro)
        refine wl_nil ?_
        refine ne_wt ?_
        refine wt_step rfl rfl (by ((repeat (first | refine Weak.same ?_ | refine Weak.off rfl ?_)); exact trivial)) ?_
        refine RS.cons ?_ (RS.nil)
        refine wl_appendTo (V := V) (xs := rowCells mk) (len := k) 10 14 Tryz.vec22 (k + 1) (rowCells (mk ++ [((⟨some gU, capU, junk⟩ : Vec), rot (rg rs k) t)])) rfl rfl rfl rfl rfl rfl rfl rfl rfl rfl rfl hV rfl rfl rfl (by rw [rowCells_snoc, hrl]; rfl) (by simp only [maxLen]; omega) (by omega) rfl ?_; intro g3 c3 j3 hV3
        refine wl_nil ?_
        refine ne_wt ?_
        refine wt_step rfl rfl (by ((repeat (first | refine Weak.same ?_ | refine Weak.off rfl ?_)); exact trivial)) ?_
        refine RS.cons ?_ (RS.nil)
        refine wl_pure Tryz.hT rfl rfl rfl ?_
        refine wl_nil ?_
        refine ne_wt ?_
        refine wt_step rfl rfl (by ((repeat (first | refine Weak.same ?_ | refine Weak.off rfl ?_)); exact trivial)) ?_
        refine RS.cons ?_ (RS.nil)
        refine wl_storeBx 9 Tryz.hT rfl rfl rfl rfl rfl rfl rfl rfl rfl rfl rfl ?_
        refine wl_nil ?_
        refine ne_wt ?_
        refine wt_doneF rfl (by kernel_rfl) ?_
        exact ne_late ⟨(⟨some g3, c3, j3⟩, ⟨some gU, capU, junk⟩), hV3, by rw [hrl]; exact hU0⟩ ⟨rfl, rfl, rfl, rfl, rfl, rfl, rfl, rfl, rfl, rfl, rfl, rfl, trivial⟩ [0, 1, 2, 3, 4, 5, 6, 7, 8, 9, 10, 11, 13] (by decide) rfl
      · refine wl_slice_h t Tryz.hT rfl rfl rfl rfl rfl rfl rfl rfl (by omega) ?_
        refine wl_nil ?_
        refine ne_wt ?_
        refine wt_step rfl rfl (by ((repeat (first | refine Weak.same ?_ | refine Weak.off rfl ?_)); exact trivial)) ?_
        refine RS.cons ?_ (RS.nil)
        refine wl_slice_l t Tryz.hT rfl rfl rfl rfl rfl rfl rfl rfl (by show t ≤ (rg rs k).length; omega) hcap2 ?_
        refine wl_nil ?_
        refine ne_wt ?_
        refine wt_step rfl rfl (by ((repeat (first | refine Weak.same ?_ | refine Weak.off rfl ?_)); exact trivial)) ?_
        refine RS.cons ?_ (RS.nil)
        (refine wl_buildRowZ Tryz.hZ Tryz.hT rfl rfl rfl rfl rfl rfl rfl rfl rfl rfl rfl ?_; intro)
        refine wl_nil ?_
        refine ne_wt ?_
        refine wt_step rfl rfl (by ((repeat (first | refine Weak.same ?_ | refine Weak.off rfl ?_)); exact trivial)) ?_
        refine RS.cons ?_ (RS.nil)
        refine wl_call (X := Vec) rfl rfl rfl rfl rfl rfl (by kernel_rfl) (fun W1 hp => concat2_gives W1 _ 2 (rg rs k) t (by omega) (by omega) bq bq _ oq _ cap2 (RowAt.of_bx hp 12 rfl rfl) (by rw [if_neg (show ¬ cap2 = t by omega)]; exact ringAt_drop ⟨fun i s hs => (hra.get i s hs).hp hp⟩ t) (ringAt_take ⟨fun i s hs => (hra.get i s hs).hp hp⟩ t)) ?_; rintro ⟨pU, capU, junk⟩ hU0; obtain ⟨gU, rfl⟩ : ∃ g, pU = some g := by { cases pU with | none => (have := hU0.nil rfl; omega) | some g => exact ⟨g, rfl⟩ }
        refine wl_nil ?_
        refine ne_wt ?_
        refine wt_step rfl rfl (by ((repeat (first | refine Weak.same ?_ | refine Weak.off rfl ?_)); exact trivial)) ?_
        refine RS.cons ?_ (RS.nil)
        (refine wl_buildRowZ Tryz.hZ Tryz.hT rfl rfl rfl rfl rfl rfl rfl rfl rfl rfl rfl ?_; intro)
        refine wl_nil ?_
        refine ne_wt ?_
        refine wt_step rfl rfl (by ((repeat (first | refine Weak.same ?_ | refine Weak.off rfl ?_)); exact trivial)) ?_
        refine RS.cons ?_ (RS.nil)
        refine wl_appendTo (V := V) (xs := rowCells mk) (len := k) 10 14 Tryz.vec22 (k + 1) (rowCells (mk ++ [((⟨some gU, capU, junk⟩ : Vec), rot (rg rs k) t)])) rfl rfl rfl rfl rfl rfl rfl rfl rfl rfl rfl hV rfl rfl rfl (by rw [rowCells_snoc, hrl]; rfl) (by simp only [maxLen]; omega) (by omega) rfl ?_; intro g3 c3 j3 hV3
        refine wl_nil ?_
        refine ne_wt ?_
        refine wt_step rfl rfl (by ((repeat (first | refine Weak.same ?_ | refine Weak.off rfl ?_)); exact trivial)) ?_
        refine RS.cons ?_ (RS.nil)
        refine wl_pure Tryz.hT rfl rfl rfl ?_
        refine wl_nil ?_
        refine ne_wt ?_
        refine wt_step rfl rfl (by ((repeat (first | refine Weak.same ?_ | refine Weak.off rfl ?_)); exact trivial)) ?_
        refine RS.cons ?_ (RS.nil)
        refine wl_storeBx 9 Tryz.hT rfl rfl rfl rfl rfl rfl rfl rfl rfl rfl rfl ?_
        refine wl_nil ?_
        refine ne_wt ?_
        refine wt_doneF rfl (by kernel_rfl) ?_
        exact ne_late ⟨(⟨some g3, c3, j3⟩, ⟨some gU, capU, junk⟩), hV3, by rw [hrl]; exact hU0⟩ ⟨rfl, rfl, rfl, rfl, rfl, rfl, rfl, rfl, rfl, rfl, rfl, rfl, trivial⟩ [0, 1, 2, 3, 4, 5, 6, 7, 8, 9, 10, 11, 13] (by decide) rfl
    rintro ⟨⟨V1, U⟩, hV1', hU⟩
    refine zN ?_
    refine zE ?_
    refine zB ?_
    refine wl_pure Tryz.hT rfl rfl rfl ?_
    refine wl_pure Tryz.hT rfl rfl rfl ?_
    refine wl_nil ?_
    refine ne_join 11 12 (mkB (mk ++ [(U, rot (rg rs k) t)])) rfl rfl rfl (mkB_snoc mk _ _) ?_
    exact ne_loop (k + 1, V1, mk ++ [(U, rot (rg rs k) t)]) ⟨hk, htk ▸ hmk.snoc hU, hV1'⟩ (by show rs.length - (k + 1) < rs.length - k; omega) ⟨rfl, rfl, rfl, rfl, rfl, rfl, rfl, rfl, rfl, rfl, rfl, congrArg (fun z => some (Value.int .i64 z)) (wrap_id (x := (k : Int) + 1) (by omega) (by omega)), trivial⟩ [gone] rfl
  have e : k = rs.length := by have h' : decide ((k : Int) < (rs.length : Nat)) = false := h; rw [decide_eq_false_iff_not] at h'; omega
  subst e
  clear h
  rw [List.take_length] at hmk
  obtain ⟨pv3, cp3, jk3⟩ := V
  cases pv3 with
  | none => have := hV.nil rfl; omega
  | some g3 =>
  have hcp3 : rs.length ≤ cp3 := (hV.cap (by simp)).1
  have hml : mk.length = rs.length := by have := congrArg List.length hmk.eq; rw [List.length_map, List.length_map] at this; exact this
  obtain ⟨x, l, rfl⟩ := tail_rev (mk := mk) (fun e => by rw [e] at hml; simp at hml; omega)
  have hll : rs.length = l.length + 1 := by rw [← hml]; rfl
  have hmk3 : MadeOK (x :: l.reverse) (othR rs m) := by rw [othR_eq]; exact hmk.tail
  have hV3 : (⟨some g3, cp3, jk3⟩ : Vec).OK 1 (othR rs m).length (rowCells (x :: l.reverse)) := by
    have h1 : (rowCells (x :: l.reverse)).length = (rowCells (x :: l)).length := by simp [rowCells]
    rw [hol]
    exact ⟨h1.trans hV.len, hV.nil, fun h => ⟨(hV.cap h).1, (hV.cap h).2.1, by rw [h1]; exact (hV.cap h).2.2⟩⟩
  refine zJ ?_
  refine zK ?_
  refine zK ?_
  refine zL ?_
  refine zE ?_
  refine zA ?_
  refine zB ?_
  refine wl_pure Tryz.hT rfl rfl rfl ?_
  refine wl_loadBx 9 Tryz.hT rfl rfl rfl rfl rfl rfl rfl rfl ?_
  refine wl_slice_l 1 Tryz.hT rfl rfl rfl rfl rfl rfl rfl rfl (by show 1 ≤ rs.length; omega) hcp3 ?_
  refine wl_revTail 10 (m := rs.length) (x := x) (l := l) hmk rfl rfl rfl rfl rfl rfl rfl hll hcp3 (fun h => (if_neg h).trans rfl) (fun h => if_pos h) (by omega) ?_
  refine wl_nil ?_
  refine zE ?_
  refine wc_regroup 11 (mkB (x :: l.reverse)) rfl (mkB_perm ((List.reverse_perm l).cons x)) ?_
  refine zA ?_
  refine zB ?_
  refine wl_loadBx 9 Tryz.hT rfl rfl rfl rfl rfl rfl rfl rfl ?_
  refine wl_upd 72 (planV (some ⟨g3, 0, none⟩) (othR rs m).length cp3) rfl (by rw [hol]; rfl) ?_
  refine wl_call (X := Vec × Made × Nat) rfl rfl rfl rfl rfl rfl (by kernel_rfl) (fun W hp => canonical_gives W (some ⟨g3, 0, none⟩) cp3 (othR rs m) (by omega) (rings_at hmk3 rfl hV3 hp 10 11 rfl rfl) hoc (by omega)) ?_
  rintro ⟨⟨pv4, cp4, jk4⟩, mk4, bN4⟩ ⟨hmk4, hV4⟩
  have hmk4 : MadeOK mk4 (canR (othR rs m)) := hmk4
  cases pv4 with
  | none => have := hV4.nil rfl; rw [hoi] at this; omega
  | some g4 =>
  have hV4 : (⟨some g4, cp4, jk4⟩ : Vec).OK 1 (canR (othR rs m)).length (rowCells mk4) := hV4
  refine wl_pure Tryz.hT rfl rfl rfl ?_
  refine wl_pure Tryz.hT rfl rfl rfl ?_
  refine wl_pure Tryz.hT rfl rfl rfl ?_
  refine wl_pure Tryz.hT rfl rfl rfl ?_
  (refine wl_allocZ Tryz.hZ rfl rfl rfl rfl ?_; intro)
  refine wl_storeBx 15 Tryz.hT rfl rfl rfl rfl rfl rfl rfl rfl rfl rfl rfl ?_
  refine wl_pure Tryz.hT rfl rfl rfl ?_
  refine wl_pure Tryz.hT rfl rfl rfl ?_
  refine wl_nil ?_
  rename_i b15
  refine zE ?_
  refine zA ?_
  refine zB ?_
  refine wl_loadBx 0 Tryz.hT rfl rfl rfl rfl rfl rfl rfl rfl ?_
  refine wl_call (X := Vec) rfl rfl rfl rfl rfl rfl (by kernel_rfl) (fun W hp => sides_ok W p cap rs hn (hR.hp hp) hc) ?_
  rintro ⟨pS, cS, jS⟩ hS
  have hS : (⟨pS, cS, jS⟩ : Vec).OK 7 rs.flatten.length (cellsOf rs.flatten) := hS
  cases pS with
  | none => have := hS.nil rfl; rw [flat_len] at this; omega
  | some gS =>
  refine wl_pure Tryz.hT rfl rfl rfl ?_
  refine wl_pure Tryz.hT rfl rfl rfl ?_
  refine wl_pure Tryz.hT rfl rfl rfl ?_
  refine wl_pure Tryz.hT rfl rfl rfl ?_
  refine wl_pure Tryz.hT rfl rfl rfl ?_
  refine wl_nil ?_
  refine zE ?_
  refine zA ?_
  refine zB ?_
  refine wl_loadBx 4 Tryz.hT rfl rfl rfl rfl rfl rfl rfl rfl ?_
  refine wl_call (X := Vec) rfl rfl rfl rfl rfl rfl (by kernel_rfl) (fun W hp => sides_ok W (some ⟨g1, 0, none⟩) cp1 (canR rs) (by omega) (rings_at hmk1 rfl hV1 hp 1 2 rfl rfl) hcc) ?_
  rintro ⟨pA, cA, jA⟩ hA
  have hA : (⟨pA, cA, jA⟩ : Vec).OK 7 (canR rs).flatten.length (cellsOf (canR rs).flatten) := hA
  cases pA with
  | none => have := hA.nil rfl; rw [flat_len] at this; omega
  | some gA =>
  refine wl_pure Tryz.hT rfl rfl rfl ?_
  refine wl_pure Tryz.hT rfl rfl rfl ?_
  refine wl_pure Tryz.hT rfl rfl rfl ?_
  refine wl_pure Tryz.hT rfl rfl rfl ?_
  refine wl_pure Tryz.hT rfl rfl rfl ?_
  refine wl_nil ?_
  have hfl : rs.flatten.length = tot rs := flat_len rs
  have hfc : (canR rs).flatten.length = tot rs := by rw [flat_len, hct]
  have hls : ∀ l ∈ canR rs, l.length < 4611686018427387904 := fun l h => by have := len_le_tot h; omega
  refine zE ?_
  refine zA ?_
  refine zA ?_
  refine zB ?_
  refine wl_pure Tryz.hT rfl rfl rfl ?_
  refine wl_pure Tryz.hT rfl rfl rfl ?_
  refine wl_pure Tryz.hT rfl rfl rfl ?_
  refine wl_pure Tryz.hT rfl rfl rfl ?_
  refine wl_pure Tryz.hT rfl rfl rfl ?_
  refine wl_pure Tryz.hT rfl rfl rfl ?_
  refine wl_pure Tryz.hT rfl rfl rfl ?_
  refine wl_pure Tryz.hT rfl rfl rfl ?_
  refine wl_pure Tryz.hT rfl rfl rfl ?_
  refine wl_pure Tryz.hT rfl rfl rfl ?_
  refine wl_pure Tryz.hT rfl rfl rfl ?_
  refine wl_loadBx 4 Tryz.hT rfl rfl rfl rfl rfl rfl rfl rfl ?_
  refine wl_loadBx 8 Tryz.hT rfl rfl rfl rfl rfl rfl rfl rfl ?_
  refine wl_call1 rfl rfl rfl rfl rfl rfl (by kernel_rfl) (fun W hp => same_gives W (some ⟨g1, 0, none⟩) (some ⟨g2, 0, none⟩) cp1 cp2 (canR rs) (canR (canR rs)) (by omega) hls (rings_at hmk1 rfl hV1 hp 1 2 rfl rfl) (rings_at hmk2 rfl hV2 hp 5 6 rfl rfl)) ?_
  refine wl_upd 100 (.bool true) rfl (congrArg Value.bool (by rw [hci]; simp)) ?_
  refine wl_pure Tryz.hT rfl rfl rfl ?_
  refine wl_pure Tryz.hT rfl rfl rfl ?_
  refine wl_pure Tryz.hT rfl rfl rfl ?_
  refine wl_loadBx 4 Tryz.hT rfl rfl rfl rfl rfl rfl rfl rfl ?_
  refine wl_loadBx 15 Tryz.hT rfl rfl rfl rfl rfl rfl rfl rfl ?_
  refine wl_call1 rfl rfl rfl rfl rfl rfl (by kernel_rfl) (fun W hp => same_gives W (some ⟨g1, 0, none⟩) (some ⟨g4, 0, none⟩) cp1 cp4 (canR rs) (canR (othR rs m)) (by omega) hls (rings_at hmk1 rfl hV1 hp 1 2 rfl rfl) (rings_at hmk4 rfl hV4 hp 12 13 rfl rfl)) ?_
  refine wl_upd 106 (.bool true) rfl (congrArg Value.bool (by rw [hoi]; simp)) ?_
  refine wl_pure Tryz.hT rfl rfl rfl ?_
  refine wl_pure Tryz.hT rfl rfl rfl ?_
  refine wl_pure Tryz.hT rfl rfl rfl ?_
  refine wl_pure Tryz.hT rfl rfl rfl ?_
  refine wl_pure Tryz.hT rfl rfl rfl ?_
  refine wl_pure Tryz.hT rfl rfl rfl ?_
  refine wl_pure Tryz.hT rfl rfl rfl ?_
  refine wl_pure Tryz.hT rfl rfl rfl ?_
  refine wl_upd 114 (.bool false) rfl (congrArg Value.bool (show (((tot rs : Nat) : Int) != ((rs.flatten.length : Nat) : Int)) = false by rw [hfl]; simp)) ?_
  refine wl_pure Tryz.hT rfl rfl rfl ?_
  refine wl_pure Tryz.hT rfl rfl rfl ?_
  refine wl_pure Tryz.hT rfl rfl rfl ?_
  refine wl_pure Tryz.hT rfl rfl rfl ?_
  refine wl_pure Tryz.hT rfl rfl rfl ?_
  refine wl_pure Tryz.hT rfl rfl rfl ?_
  refine wl_pure Tryz.hT rfl rfl rfl ?_
  refine wl_upd 121 (.bool false) rfl (congrArg Value.bool (show (((tot (canR rs) : Nat) : Int) != ((rs.flatten.length : Nat) : Int)) = false by rw [hfl, hct]; simp)) ?_
  refine wl_pure Tryz.hT rfl rfl rfl ?_
  refine wl_pure Tryz.hT rfl rfl rfl ?_
  refine wl_pure Tryz.hT rfl rfl rfl ?_
  refine wl_pure Tryz.hT rfl rfl rfl ?_
  refine wl_pure Tryz.hT rfl rfl rfl ?_
  refine wl_pure Tryz.hT rfl rfl rfl ?_
  refine wl_pure Tryz.hT rfl rfl rfl ?_
  refine wl_upd 128 (.bool false) rfl (congrArg Value.bool (show ((((canR rs).flatten.length : Nat) : Int) != ((rs.flatten.length : Nat) : Int)) = false by rw [hfl, hfc]; simp)) ?_
  refine wl_pure Tryz.hT rfl rfl rfl ?_
  refine wl_nil ?_
  refine zE ?_
  refine zS rfl ?_
  refine zI ?_
  refine zE ?_
  refine zA ?_
  refine zB ?_
  refine wl_pure Tryz.hT rfl rfl rfl ?_
  refine wl_pure Tryz.hT rfl rfl rfl ?_
  refine wl_makeSlice Tryz.vec68 (tot rs) rfl rfl rfl rfl rfl (congrArg (fun n : Nat => (n : Int)) hfl) (congrArg (fun n : Nat => (n : Int)) hfl) (by simp only [maxLen]; omega) (by omega) ?_
  intro b22
  rw [repL_cb, ← seenB_zero]
  refine wl_pure Tryz.hT rfl rfl rfl ?_
  refine wl_nil ?_
  refine zE ?_
  refine zA ?_
  refine zA ?_
  refine zB ?_
  refine wl_pure Tryz.hT rfl rfl rfl ?_
  refine wl_pure Tryz.hT rfl rfl rfl ?_
  refine wl_pure Tryz.hT rfl rfl rfl ?_
  refine wl_nil ?_
  refine zE ?_
  refine zH ?_
  refine wc_loopA (X := Nat) (fun i => [(9, .slice (some ⟨bN2, 0, none⟩) (tot (canR rs)) (tot (canR rs))), (18, .slice (some ⟨gS, 0, none⟩) rs.flatten.length cS), (20, .slice (some ⟨gA, 0, none⟩) (canR rs).flatten.length cA), (22, .slice (some ⟨b22, 0, none⟩) (tot rs) (tot rs)), (133, .slice (some ⟨bN1, 0, none⟩) (tot rs) (tot rs)), (134, .int .i64 (tot rs : Nat)), (135, .int .i64 (i : Nat))])
    (fun i => Hp W [⟨bN1, 3, ci (numsOf rs), true, none⟩, ⟨bN2, 3, ci (numsOf (canR rs)), true, none⟩, ⟨gS, 42, cellsOf rs.flatten ++ jS, true, none⟩, ⟨gA, 42, cellsOf (canR rs).flatten ++ jA, true, none⟩, ⟨b22, 4, cb (seenB rs i), true, none⟩])
    (fun i => i ≤ tot rs) (fun i => tot rs - i) 0 (Nat.zero_le _) ⟨rfl, rfl, rfl, rfl, rfl, rfl, rfl, trivial⟩ (fun W1 hp => hp.pick [3, 7, 16, 17, 18] (by decide) rfl) ?_
  intro i hi
  refine zA ?_
  refine zB ?_
  refine wl_pure Tryz.hT rfl rfl rfl ?_
  refine wl_nil ?_
  refine zE ?_
  refine zA ?_
  refine wc_cond rfl (fun h => ?_) (fun h => ?_)
  · have hi : i < tot rs := by have h' : decide ((i : Int) < (tot rs : Nat)) = true := h; rw [decide_eq_true_iff] at h'; omega
    clear h
    obtain ⟨j, hj, hn1, hsn, hsd⟩ := can_round hi
    have hn2 := can_own (c := canR rs) (by rw [hco, hct]) (i := i) (by omega)
    refine zI ?_
    refine zE ?_
    refine zA ?_
    refine zH ?_
    refine zA ?_
    refine zB ?_
    refine wl_pure Tryz.hT rfl rfl rfl ?_
    refine wl_indexAddr Tryz.hT rfl rfl rfl rfl rfl rfl rfl (by omega) (by omega) ?_
    refine wl_load rfl rfl rfl rfl (fun W hp => RowAt.load 0 Tryz.hT rfl ((fun W1 hp => show RowAt W1 bN1 (0 + i * 1) [.int .i64 ((numsOf rs).getD i 0)] from ci_at (junk := []) hp 0 (by rw [List.append_nil]; rfl) (by rw [numsOf_len]; exact hi)) W hp) rfl) ?_
    refine wl_upd 139 (.int .i64 (j : Nat)) rfl (congrArg (Value.int .i64) hn1) ?_
    refine wl_pure Tryz.hT rfl rfl rfl ?_
    refine wl_pure Tryz.hT rfl rfl rfl ?_
    refine wl_nil ?_
    refine zE ?_
    refine zA ?_
    refine zA ?_
    refine zT Tryz.mixed (by kernel_rfl) ?_
    refine wq_pure Tryz.hT rfl rfl rfl ?_
    refine wq_pure Tryz.hT rfl rfl rfl ?_
    refine wq_upd 141 (.bool false) rfl (congrArg Value.bool (decide_eq_false (by omega))) ?_
    refine wq_pure Tryz.hT rfl rfl rfl ?_
    refine wq_pure Tryz.hT rfl rfl rfl ?_
    refine wq_pure Tryz.hT rfl rfl rfl ?_
    refine wq_pure Tryz.hT rfl rfl rfl ?_
    refine wq_pure Tryz.hT rfl rfl rfl ?_
    refine wq_upd 146 (.bool false) rfl (congrArg Value.bool (decide_eq_false (by omega))) ?_
    refine wq_pure Tryz.hT rfl rfl rfl ?_
    refine wq_pure Tryz.hT rfl rfl rfl ?_
    refine wq_pure Tryz.hT rfl rfl rfl ?_
    refine wq_pure Tryz.hT rfl rfl rfl ?_
    refine wq_indexAddr Tryz.hT rfl rfl rfl rfl rfl rfl rfl (by omega) (by omega) ?_
    refine wq_load rfl rfl rfl rfl (fun W hp => RowAt.load 0 Tryz.hT rfl ((fun W1 hp => cb_at hp 4 rfl (by rw [seenB_len]; exact hj)) W hp) rfl) ?_
    refine wq_upd 152 (.bool false) rfl (congrArg Value.bool hsn) ?_
    refine wq_pure Tryz.hT rfl rfl rfl ?_
    refine wq_pure Tryz.hT rfl rfl rfl ?_
    refine wq_pure Tryz.hT rfl rfl rfl ?_
    refine wq_pure Tryz.hT rfl rfl rfl ?_
    refine wq_indexAddr Tryz.hT rfl rfl rfl rfl rfl rfl rfl (by omega) (by omega) ?_
    refine wq_load rfl rfl rfl rfl (fun W hp => RowAt.load 0 Tryz.hT rfl ((fun W1 hp => row_sideO (pre := []) hp 3 rfl (by rw [hfc]; exact hj)) W hp) rfl) ?_
    refine wq_pure Tryz.hT rfl rfl rfl ?_
    refine wq_pure Tryz.hT rfl rfl rfl ?_
    refine wq_indexAddr Tryz.hT rfl rfl rfl rfl rfl rfl rfl (by omega) (by omega) ?_
    refine wq_load rfl rfl rfl rfl (fun W hp => RowAt.load 0 Tryz.hT rfl ((fun W1 hp => row_sideO (pre := []) hp 2 rfl (by rw [hfl]; exact hi)) W hp) rfl) ?_
    refine wq_neqSd rfl rfl rfl rfl rfl ?_
    refine wq_upd 163 (.bool false) rfl (congrArg Value.bool (show (!decide (sd (canR rs).flatten j = sd rs.flatten i)) = false by rw [hsd]; simp)) ?_
    refine wq_pure Tryz.hT rfl rfl rfl ?_
    refine wq_pure Tryz.hT rfl rfl rfl ?_
    refine wq_pure Tryz.hT rfl rfl rfl ?_
    refine wq_pure Tryz.hT rfl rfl rfl ?_
    refine wq_indexAddr Tryz.hT rfl rfl rfl rfl rfl rfl rfl (by omega) (by omega) ?_
    refine wq_load rfl rfl rfl rfl (fun W hp => RowAt.load 0 Tryz.hT rfl ((fun W1 hp => show RowAt W1 bN2 (0 + i * 1) [.int .i64 ((numsOf (canR rs)).getD i 0)] from ci_at (junk := []) hp 1 (by rw [List.append_nil]; rfl) (by rw [numsOf_len]; omega)) W hp) rfl) ?_
    refine wq_upd 169 (.int .i64 (i : Nat)) rfl (congrArg (Value.int .i64) hn2) ?_
    refine wq_pure Tryz.hT rfl rfl rfl ?_
    refine wq_pure Tryz.hT rfl rfl rfl ?_
    refine wq_upd 171 (.bool false) rfl (congrArg Value.bool (show (((i : Nat) : Int) != ((i : Nat) : Int)) = false by simp)) ?_
    refine wq_pure Tryz.hT rfl rfl rfl ?_
    refine wq_nil ?_
    refine wl_nil ?_
    refine zE ?_
    refine zS rfl ?_
    refine zI ?_
    refine zE ?_
    refine zB ?_
    refine wl_pure Tryz.hT rfl rfl rfl ?_
    refine wl_pure Tryz.hT rfl rfl rfl ?_
    refine wl_indexAddr Tryz.hT rfl rfl rfl rfl rfl rfl rfl (by omega) (by omega) ?_
    refine wl_storeTo 4 (cb (seenB rs (i + 1))) Tryz.hT rfl rfl rfl rfl rfl rfl rfl rfl rfl rfl (by show 0 + j * 1 + 1 ≤ (cb (seenB rs i)).length; rw [List.length_map, seenB_len]; omega) ((set_bool true (L := seenB rs i) (j := j) (by rw [seenB_len]; exact hj)).trans (by rw [seenB_succ hj hn1])) ?_
    refine wl_nil ?_
    refine zN ?_
    refine zE ?_
    refine zB ?_
    refine wl_pure Tryz.hT rfl rfl rfl ?_
    refine wl_pure Tryz.hT rfl rfl rfl ?_
    refine wl_nil ?_
    exact ne_loop (i + 1) hi (by omega) ⟨rfl, rfl, rfl, rfl, rfl, rfl, congrArg (fun z => some (Value.int .i64 z)) (wrap_id (x := (i : Int) + 1) (by omega) (by omega)), trivial⟩ [] rfl
  refine zJ ?_
  refine zK ?_
  refine zK ?_
  refine zL ?_
  refine zE ?_
  refine zA ?_
  refine zB ?_
  refine wl_call1 rfl rfl rfl rfl rfl rfl (by kernel_rfl) (fun W hp => awake_gives W (ht.hp hp)) ?_
  refine wl_pure Tryz.hT rfl rfl rfl ?_
  refine wl_nil ?_
  refine zE ?_
  refine zO ?_
  exact ne_ret1 Tryz.hT rfl (.tmp rfl) () rfl trivial fun W _ => NewBx.nil _ _
end Go.Proofs.YtnpfkmbcejgnjaaGreatDoor
