/-
  PlanArea returns true.
-/
import Derived.Test.YtnpfkmbcejgnjaaGreatDoorScanTo
import Derived.Test.YtnpfkmbcejgnjaaGreatDoorAwake
import Derived.Test.YtnpfkmbcejgnjaaGreatDoorAp
namespace Go.Proofs.YtnpfkmbcejgnjaaGreatDoor
open Go Go.RowKit Go.Am Go.Lib
set_option maxRecDepth 10000
-- BOXES 5
set_option maxHeartbeats 16000000 in
theorem scan_gives (W : World) (p : Option Addr) (cap : Nat) (rs : List (List Sd)) (hn : rs.length < 4611686018427387904) (hT : tot rs < 4611686018427387904) (hR : RingsP W p rs) (ht : TabP W) :
    CallsR Tryz.prog 9 #[planV p rs.length cap] W (fun _ : Unit => .bool true) (fun _ => True) (fun _ => []) := by
  refine calls_enter (args := [planV p rs.length cap]) Tryz.func9 rfl rfl rfl ?_
  refine zA ?_
  refine zB ?_
  (refine wl_box rfl rfl rfl rfl ?_; intro)
  refine wl_pure Tryz.hT rfl rfl rfl ?_
  refine wl_nil ?_
  rename_i b1
  refine zE ?_
  refine zA ?_
  refine zA ?_
  refine zB ?_
  refine wl_loadBx 0 Tryz.hT rfl rfl rfl rfl rfl rfl rfl rfl ?_
  refine wl_call1 rfl rfl rfl rfl rfl rfl (by kernel_rfl) (fun W hp => fine_gives W p cap rs hn hT (hR.hp hp)) ?_
  refine wl_pure Tryz.hT rfl rfl rfl ?_
  refine wl_nil ?_
  refine zE ?_
  refine wc_cond rfl (fun hfine => ?_) (fun hfine => ?_)
  · refine zA ?_
    refine zB ?_
    refine wl_call1 rfl rfl rfl rfl rfl rfl (by kernel_rfl) (fun W hp => awake_gives W (ht.hp hp)) ?_
    refine wl_pure Tryz.hT rfl rfl rfl ?_
    refine wl_nil ?_
    refine zE ?_
    refine zO ?_
    refine zP ?_
    exact ne_ret1 Tryz.hT rfl (.tmp rfl) () rfl trivial fun W _ => NewBx.nil _ _
  have hfine : fineB rs = true := by simpa using hfine
  unfold fineB at hfine
  obtain ⟨hg0, hc0⟩ := Bool.and_eq_true_iff.1 hfine
  have hc : chk rs = 0 := by simpa using hc0
  obtain ⟨hne, h24, h0⟩ := chk_ne hc
  have h12 : tot rs ≤ 12 := by
    have h1 : grt rs 12 = false := by simpa using hg0
    unfold grt at h1
    simp only [Bool.or_eq_false_iff, Bool.and_eq_false_iff, decide_eq_false_iff_not] at h1
    omega
  clear hfine hc0 hg0
  have hin := chk_inR hc
  refine zI ?_
  refine zE ?_
  refine zA ?_
  refine zB ?_
  refine wl_pure Tryz.hT rfl rfl rfl ?_
  refine wl_nil ?_
  refine zE ?_
  refine zA ?_
  refine zA ?_
  refine zB ?_
  refine wl_pure Tryz.hT rfl rfl rfl ?_
  refine wl_loadBx 0 Tryz.hT rfl rfl rfl rfl rfl rfl rfl rfl ?_
  refine wl_pure Tryz.hT rfl rfl rfl ?_
  refine wl_pure Tryz.hT rfl rfl rfl ?_
  refine wl_nil ?_
  refine zE ?_
  refine zH ?_
  refine wc_newGone ?_
  refine wc_loop (X := Nat × Vec) (fun x => [(1, .pointer (some ⟨b1, 0, none⟩)), (3, x.2.val (tot (rs.take x.1))), (26, slv p rs.length cap), (27, .int .i64 (rs.length : Nat)), (28, .int .i64 (x.1 : Nat))]) (fun x => [⟨b1, 24, [slv p rs.length cap], true, none⟩, x.2.bx 3 (ci (ysRs rs x.1))])
    (fun x => x.1 ≤ rs.length ∧ x.2.OK 1 (tot (rs.take x.1)) (ci (ysRs rs x.1))) (fun x => rs.length - x.1) (0, Vec.empty) ⟨Nat.zero_le _, Vec.OK.empty 1⟩ ⟨rfl, rfl, rfl, rfl, rfl, trivial⟩ [] rfl ?_
  rintro ⟨r, V⟩ ⟨hr, hV⟩
  change r ≤ rs.length at hr
  change V.OK 1 (tot (rs.take r)) (ci (ysRs rs r)) at hV
  refine zA ?_
  refine zB ?_
  refine wl_pure Tryz.hT rfl rfl rfl ?_
  refine wl_nil ?_
  refine zE ?_
  refine zA ?_
  refine wc_cond rfl (fun h => ?_) (fun h => ?_)
  · have hr : r < rs.length := by have h' : decide ((r : Int) < (rs.length : Nat)) = true := h; rw [decide_eq_true_iff] at h'; omega
    clear h
    obtain ⟨b, off, rfl, hrow⟩ := hR.row hr
    obtain ⟨q, cap2, hq1, hq2⟩ := hrow r hr
    have t1 := tot_take_succ hr
    have t2 := tot_take_le rs (r + 1)
    refine zI ?_
    refine zE ?_
    refine zA ?_
    refine zH ?_
    refine zA ?_
    refine zB ?_
    refine wl_indexAddr Tryz.hT rfl rfl rfl rfl rfl rfl rfl (by omega) (by omega) ?_
    refine wl_load rfl rfl rfl rfl (fun W hp => RowAt.load 0 Tryz.hT rfl ((fun W hp => hq1.hp hp) W hp) rfl) ?_
    refine wl_pure Tryz.hT rfl rfl rfl ?_
    refine wl_nil ?_
    refine zE ?_
    refine zA ?_
    refine zB ?_
    refine wl_pure Tryz.hT rfl rfl rfl ?_
    refine wl_pure Tryz.hT rfl rfl rfl ?_
    refine wl_pure Tryz.hT rfl rfl rfl ?_
    refine wl_nil ?_
    refine zE ?_
    refine zH ?_
    refine wc_loop (X := Nat × Vec) (fun x => [(1, .pointer (some ⟨b1, 0, none⟩)), (3, x.2.val (tot (rs.take r) + x.1)), (26, slv (some ⟨b, off, none⟩) rs.length cap), (27, .int .i64 (rs.length : Nat)), (28, .int .i64 (r : Nat)), (32, slv q (rg rs r).length cap2), (33, .int .i64 ((rg rs r).length : Nat)), (34, .int .i64 (x.1 : Nat))])
      (fun x => [⟨b1, 24, [slv (some ⟨b, off, none⟩) rs.length cap], true, none⟩, x.2.bx 3 (ci (ysRs rs r ++ ysUp (rg rs r) x.1))])
      (fun x => x.1 ≤ (rg rs r).length ∧ x.2.OK 1 (tot (rs.take r) + x.1) (ci (ysRs rs r ++ ysUp (rg rs r) x.1))) (fun x => (rg rs r).length - x.1) (0, V) ⟨Nat.zero_le _, by show V.OK 1 (tot (rs.take r)) (ci (ysRs rs r ++ [])); rw [List.append_nil]; exact hV⟩ ⟨rfl, rfl, rfl, rfl, rfl, rfl, rfl, rfl, trivial⟩ [] (congrArg (fun l => [(⟨b1, 24, [slv (some ⟨b, off, none⟩) rs.length cap], true, none⟩ : Bx), V.bx 3 (ci l)]) (List.append_nil (ysRs rs r)).symm) ?_
    rintro ⟨i, V2⟩ ⟨hi, hV2⟩
    change i ≤ (rg rs r).length at hi
    change V2.OK 1 (tot (rs.take r) + i) (ci (ysRs rs r ++ ysUp (rg rs r) i)) at hV2
    refine zA ?_
    refine zB ?_
    refine wl_pure Tryz.hT rfl rfl rfl ?_
    refine wl_nil ?_
    refine zE ?_
    refine zA ?_
    refine wc_cond rfl (fun h => ?_) (fun h => ?_)
    rotate_left
    · have e : i = (rg rs r).length := by have h' : decide ((i : Int) < ((rg rs r).length : Nat)) = false := h; rw [decide_eq_false_iff_not] at h'; omega
      subst e
      refine zJ ?_
      refine zK ?_
      refine zK ?_
      refine zL ?_
      refine zN ?_
      refine zE ?_
      refine zB ?_
      refine wl_pure Tryz.hT rfl rfl rfl ?_
      refine wl_pure Tryz.hT rfl rfl rfl ?_
      refine wl_nil ?_
      have e : ci (ysRs rs r ++ ysUp (rg rs r) (rg rs r).length) = ci (ysRs rs (r + 1)) := rfl
      exact ne_loop (r + 1, V2) ⟨hr, by show V2.OK 1 (tot (rs.take (r + 1))) _; rw [t1]; exact hV2⟩ (by show rs.length - (r + 1) < rs.length - r; omega) ⟨rfl, congrArg (fun n => some (V2.val n)) t1.symm, rfl, rfl, congrArg (fun z => some (Value.int .i64 z)) (wrap_id (x := (r : Int) + 1) (by omega) (by omega)), trivial⟩ [] rfl
    have hi : i < (rg rs r).length := by have h' : decide ((i : Int) < ((rg rs r).length : Nat)) = true := h; rw [decide_eq_true_iff] at h'; omega
    clear h
    obtain ⟨bq, oq, rfl, hrq⟩ := hq2.row hi
    refine zI ?_
    refine zE ?_
    refine zA ?_
    refine zH ?_
    refine zA ?_
    refine zB ?_
    refine wl_indexAddr Tryz.hT rfl rfl rfl rfl rfl rfl rfl (by omega) (by omega) ?_
    refine wl_load rfl rfl rfl rfl (fun W hp => RowAt.load 0 Tryz.hT rfl ((fun W hp => (hrq i hi).hp hp) W hp) rfl) ?_
    (refine wl_allocZ Tryz.hZ rfl rfl rfl rfl ?_; intro)
    refine wl_storeBx 2 Tryz.hT rfl rfl rfl rfl rfl rfl rfl rfl rfl rfl rfl ?_
    refine wl_nil ?_
    rename_i b7
    refine zE ?_
    refine zB ?_
    refine wl_pure Tryz.hT rfl rfl rfl ?_
    refine wl_pure Tryz.hT rfl rfl rfl ?_
    refine wl_loadBx 2 Tryz.hT rfl rfl rfl rfl rfl rfl rfl rfl ?_
    (refine wl_buildRowZ Tryz.hZ Tryz.hT rfl rfl rfl rfl rfl rfl rfl rfl rfl rfl rfl ?_; intro)
    refine wl_appendTo (V := V2) (len := tot (rs.take r) + i) (xs := ci (ysRs rs r ++ ysUp (rg rs r) i)) 1 3 Tryz.vec60 (tot (rs.take r) + (i + 1)) (ci (ysRs rs r ++ ysUp (rg rs r) (i + 1))) rfl rfl rfl rfl rfl rfl rfl rfl rfl rfl rfl hV2 rfl rfl rfl (by show ci (ysRs rs r ++ ysUp (rg rs r) i) ++ ci [(sd (rg rs r) i).y] = ci (ysRs rs r ++ (ysUp (rg rs r) i ++ [(sd (rg rs r) i).y])); rw [← List.append_assoc]; exact List.map_append.symm) (by simp only [maxLen]; omega) (by omega) rfl ?_
    intro g c1 j1 hV1
    refine wl_pure Tryz.hT rfl rfl rfl ?_
    refine wl_nil ?_
    refine zN ?_
    refine zE ?_
    refine zB ?_
    refine wl_pure Tryz.hT rfl rfl rfl ?_
    refine wl_pure Tryz.hT rfl rfl rfl ?_
    refine wl_nil ?_
    exact ne_loop (i + 1, ⟨some g, c1, j1⟩) ⟨hi, hV1⟩ (by show (rg rs r).length - (i + 1) < (rg rs r).length - i; omega) ⟨rfl, rfl, rfl, rfl, rfl, rfl, rfl, congrArg (fun z => some (Value.int .i64 z)) (wrap_id (x := (i : Int) + 1) (by omega) (by omega)), trivial⟩ [_, _] rfl
  have e : r = rs.length := by have h' : decide ((r : Int) < (rs.length : Nat)) = false := h; rw [decide_eq_false_iff_not] at h'; omega
  subst e
  rw [List.take_length] at hV
  obtain ⟨pv, cv, jv⟩ := V
  cases pv with
  | none => have := hV.nil rfl; omega
  | some g =>
  have hy0 : (ysRs rs rs.length).length = tot rs := by rw [len_ysRs rs _ (Nat.le_refl _), List.take_length]
  have hcv : tot rs ≤ cv := (hV.cap (by simp)).1
  have hm0 := lev_pos hc
  have hm := lev_len rs
  clear h
  refine zJ ?_
  refine zK ?_
  refine zK ?_
  refine zL ?_
  refine zE ?_
  refine zA ?_
  refine zB ?_
  refine wl_pure Tryz.hT rfl rfl rfl ?_
  refine wl_sortV 1 (V := ⟨some g, cv, jv⟩) (zs := ysRs rs rs.length) (len := tot rs) rfl rfl rfl rfl rfl (by show evArgs _ _ = some [.slice (some ⟨g, 0, none⟩) (tot rs) cv]; rw [← show tot (rs.take rs.length) = tot rs by rw [List.take_length]]; rfl) rfl hy0.symm hV (by omega) ?_
  refine wl_nil ?_
  refine zE ?_
  refine zA ?_
  refine zB ?_
  refine wl_pure Tryz.hT rfl rfl rfl ?_
  refine wl_callN (X := Unit) (val := fun _ => .slice (some ⟨g, 0, none⟩) (lev rs).length cv) (Φ := fun _ => True) (capt := []) (vs := [.slice (some ⟨g, 0, none⟩) (tot rs) cv]) 1 (B := ⟨g, 3, ci (srt (ysRs rs rs.length)) ++ jv, true, none⟩) (L1 := []) (L2 := []) (b := g) (ob := .cells (ci (srt (ysRs rs rs.length)) ++ jv).toArray 3 (0, 0))
    (fun _ => ⟨g, 3, ci (lev rs) ++ (ci (List.replicate ((ysRs rs rs.length).length - (lev rs).length) 0) ++ jv), true, none⟩) (g' := fun _ => g) (o' := fun _ => .cells (ci (lev rs) ++ (ci (List.replicate ((ysRs rs rs.length).length - (lev rs).length) 0) ++ jv)).toArray 3 (0, 0))
    rfl rfl rfl rfl rfl (by rw [← show tot (rs.take rs.length) = tot rs by rw [List.take_length]]; rfl) (by kernel_rfl) rfl rfl (fun _ _ => rfl) (fun W1 hp => by
      have h1 := compact_gives (cap := cv) (hp.own.cell 1 ⟨g, 3, ci (srt (ysRs rs rs.length)) ++ jv, true, none⟩ rfl (g, .cells (ci (srt (ysRs rs rs.length)) ++ jv).toArray 3 (0, 0)) (List.mem_cons_self ..)).1 (by omega) (by omega)
      rw [hy0] at h1 ⊢
      exact h1) ?_
  intro _ _
  generalize ci (List.replicate ((ysRs rs rs.length).length - (lev rs).length) 0) ++ jv = jl
  refine wl_pure Tryz.hT rfl rfl rfl ?_
  refine wl_nil ?_
  refine zE ?_
  refine zA ?_
  refine zB ?_
  refine wl_pure Tryz.hT rfl rfl rfl ?_
  refine wl_nil ?_
  refine zE ?_
  refine zA ?_
  refine zA ?_
  refine zB ?_
  refine wl_pure Tryz.hT rfl rfl rfl ?_
  refine wl_nil ?_
  refine zE ?_
  refine zH ?_
  refine wc_loop (X := Nat) (fun i => [(1, .pointer (some ⟨b1, 0, none⟩)), (3, .slice (some ⟨g, 0, none⟩) (lev rs).length cv), (8, .int .i64 (areaTo rs i)), (9, .int .i64 ((i + 1 : Nat) : Int))]) (fun _ => [⟨b1, 24, [slv p rs.length cap], true, none⟩, ⟨g, 3, ci (lev rs) ++ jl, true, none⟩])
    (fun i => i < (lev rs).length) (fun i => (lev rs).length - i) 0 hm0 ⟨rfl, rfl, rfl, rfl, trivial⟩ [] rfl ?_
  intro i hi
  refine zA ?_
  refine zA ?_
  refine zB ?_
  refine wl_pure Tryz.hT rfl rfl rfl ?_
  refine wl_pure Tryz.hT rfl rfl rfl ?_
  refine wl_pure Tryz.hT rfl rfl rfl ?_
  refine wl_pure Tryz.hT rfl rfl rfl ?_
  refine wl_nil ?_
  refine zE ?_
  refine wc_cond rfl (fun h => ?_) (fun h => ?_)
  · have hi1 : i + 1 < (lev rs).length := by have h' : decide (((i + 1 : Nat) : Int) < ((lev rs).length : Nat)) = true := h; rw [decide_eq_true_iff] at h'; omega
    clear h
    obtain ⟨xa, hxa⟩ : ∃ x, x = lv rs i := ⟨_, rfl⟩
    obtain ⟨xb, hxb⟩ : ∃ x, x = lv rs (i + 1) := ⟨_, rfl⟩
    refine zI ?_
    refine zE ?_
    refine zA ?_
    refine zH ?_
    refine zA ?_
    refine zB ?_
    refine wl_pure Tryz.hT rfl rfl rfl ?_
    refine wl_nil ?_
    refine zE ?_
    refine zA ?_
    refine zA ?_
    refine zB ?_
    refine wl_pure Tryz.hT rfl rfl rfl ?_
    refine wl_loadBx 0 Tryz.hT rfl rfl rfl rfl rfl rfl rfl rfl ?_
    refine wl_pure Tryz.hT rfl rfl rfl ?_
    refine wl_pure Tryz.hT rfl rfl rfl ?_
    refine wl_nil ?_
    refine zE ?_
    refine zH ?_
    refine wc_newGone ?_
    refine wc_loop (X := Nat × Vec) (fun x => [(1, .pointer (some ⟨b1, 0, none⟩)), (3, .slice (some ⟨g, 0, none⟩) (lev rs).length cv), (8, .int .i64 (areaTo rs i)), (9, .int .i64 ((i + 1 : Nat) : Int)), (10, x.2.val (xsRs rs xa xb x.1).length), (56, slv p rs.length cap), (57, .int .i64 (rs.length : Nat)), (58, .int .i64 (x.1 : Nat))])
      (fun x => [⟨b1, 24, [slv p rs.length cap], true, none⟩, ⟨g, 3, ci (lev rs) ++ jl, true, none⟩, x.2.bx 3 (ci (xsRs rs xa xb x.1))])
      (fun x => x.1 ≤ rs.length ∧ x.2.OK 1 (xsRs rs xa xb x.1).length (ci (xsRs rs xa xb x.1))) (fun x => rs.length - x.1) (0, Vec.empty) ⟨Nat.zero_le _, Vec.OK.empty 1⟩ ⟨rfl, rfl, rfl, rfl, rfl, rfl, rfl, rfl, trivial⟩ [] rfl ?_
    rintro ⟨r, V⟩ ⟨hr, hVx⟩
    change r ≤ rs.length at hr
    change V.OK 1 (xsRs rs xa xb r).length (ci (xsRs rs xa xb r)) at hVx
    refine zA ?_
    refine zB ?_
    refine wl_pure Tryz.hT rfl rfl rfl ?_
    refine wl_nil ?_
    refine zE ?_
    refine zA ?_
    refine wc_cond rfl (fun h => ?_) (fun h => ?_)
    · have hr : r < rs.length := by have h' : decide ((r : Int) < (rs.length : Nat)) = true := h; rw [decide_eq_true_iff] at h'; omega
      clear h
      obtain ⟨b, off, rfl, hrow⟩ := hR.row hr
      obtain ⟨q, cap2, hq1, hq2⟩ := hrow r hr
      have hlr := len_le_tot (List.mem_of_getElem? (rg_get hr))
      refine zI ?_
      refine zE ?_
      refine zA ?_
      refine zH ?_
      refine zA ?_
      refine zB ?_
      refine wl_indexAddr Tryz.hT rfl rfl rfl rfl rfl rfl rfl (by omega) (by omega) ?_
      refine wl_load rfl rfl rfl rfl (fun W hp => RowAt.load 0 Tryz.hT rfl ((fun W hp => hq1.hp hp) W hp) rfl) ?_
      refine wl_pure Tryz.hT rfl rfl rfl ?_
      refine wl_nil ?_
      refine zE ?_
      refine zA ?_
      refine zB ?_
      refine wl_pure Tryz.hT rfl rfl rfl ?_
      refine wl_pure Tryz.hT rfl rfl rfl ?_
      refine wl_pure Tryz.hT rfl rfl rfl ?_
      refine wl_nil ?_
      refine zE ?_
      refine zH ?_
      refine wc_loop (X := Nat × Vec) (fun x => [(1, .pointer (some ⟨b1, 0, none⟩)), (3, .slice (some ⟨g, 0, none⟩) (lev rs).length cv), (8, .int .i64 (areaTo rs i)), (9, .int .i64 ((i + 1 : Nat) : Int)), (10, x.2.val (xsRs rs xa xb r ++ xsUp (rg rs r) xa xb x.1).length), (12, slv q (rg rs r).length cap2), (56, slv (some ⟨b, off, none⟩) rs.length cap), (57, .int .i64 (rs.length : Nat)), (58, .int .i64 (r : Nat)), (62, slv q (rg rs r).length cap2), (63, .int .i64 ((rg rs r).length : Nat)), (64, .int .i64 (x.1 : Nat))])
        (fun x => [⟨b1, 24, [slv (some ⟨b, off, none⟩) rs.length cap], true, none⟩, ⟨g, 3, ci (lev rs) ++ jl, true, none⟩, x.2.bx 3 (ci (xsRs rs xa xb r ++ xsUp (rg rs r) xa xb x.1))])
        (fun x => x.1 ≤ (rg rs r).length ∧ x.2.OK 1 (xsRs rs xa xb r ++ xsUp (rg rs r) xa xb x.1).length (ci (xsRs rs xa xb r ++ xsUp (rg rs r) xa xb x.1))) (fun x => (rg rs r).length - x.1) (0, V) ⟨Nat.zero_le _, by show V.OK 1 (xsRs rs xa xb r ++ []).length (ci (xsRs rs xa xb r ++ [])); rw [List.append_nil]; exact hVx⟩
        ⟨rfl, rfl, rfl, rfl, congrArg (fun l : List Int => some (V.val l.length)) (List.append_nil (xsRs rs xa xb r)).symm, rfl, rfl, rfl, rfl, rfl, rfl, rfl, trivial⟩ [] (congrArg (fun l => [(⟨b1, 24, [slv (some ⟨b, off, none⟩) rs.length cap], true, none⟩ : Bx), ⟨g, 3, ci (lev rs) ++ jl, true, none⟩, V.bx 3 (ci l)]) (List.append_nil (xsRs rs xa xb r)).symm) ?_
      rintro ⟨k, V2⟩ ⟨hk, hV2⟩
      change k ≤ (rg rs r).length at hk
      change V2.OK 1 (xsRs rs xa xb r ++ xsUp (rg rs r) xa xb k).length (ci (xsRs rs xa xb r ++ xsUp (rg rs r) xa xb k)) at hV2
      refine zA ?_
      refine zB ?_
      refine wl_pure Tryz.hT rfl rfl rfl ?_
      refine wl_nil ?_
      refine zE ?_
      refine zA ?_
      refine wc_cond rfl (fun h => ?_) (fun h => ?_)
      rotate_left
      · have e : k = (rg rs r).length := by have h' : decide ((k : Int) < ((rg rs r).length : Nat)) = false := h; rw [decide_eq_false_iff_not] at h'; omega
        subst e
        refine zJ ?_
        refine zK ?_
        refine zK ?_
        refine zL ?_
        refine zN ?_
        refine zE ?_
        refine zB ?_
        refine wl_pure Tryz.hT rfl rfl rfl ?_
        refine wl_pure Tryz.hT rfl rfl rfl ?_
        refine wl_nil ?_
        exact ne_loop (r + 1, V2) ⟨hr, hV2⟩ (by show rs.length - (r + 1) < rs.length - r; omega) ⟨rfl, rfl, rfl, rfl, rfl, rfl, rfl, congrArg (fun z => some (Value.int .i64 z)) (wrap_id (x := (r : Int) + 1) (by omega) (by omega)), trivial⟩ [] rfl
      have hk : k < (rg rs r).length := by have h' : decide ((k : Int) < ((rg rs r).length : Nat)) = true := h; rw [decide_eq_true_iff] at h'; omega
      clear h
      obtain ⟨bq, oq, rfl, hrq⟩ := hq2.row hk
      have hnk := nxt_lt hk
      refine zI ?_
      refine zE ?_
      refine zA ?_
      refine zH ?_
      refine zA ?_
      refine zB ?_
      refine wl_pure Tryz.hT rfl rfl rfl ?_
      refine wl_indexAddr Tryz.hT rfl rfl rfl rfl rfl rfl rfl (by omega) (by omega) ?_
      refine wl_load rfl rfl rfl rfl (fun W hp => RowAt.load 0 Tryz.hT rfl ((fun W hp => (hrq k hk).hp hp) W hp) rfl) ?_
      (refine wl_allocZ Tryz.hZ rfl rfl rfl rfl ?_; intro)
      refine wl_pure Tryz.hT rfl rfl rfl ?_
      refine wl_storeBx 3 Tryz.hT rfl rfl rfl rfl rfl rfl rfl rfl rfl rfl rfl ?_
      refine wl_nil ?_
      rename_i b14
      refine zE ?_
      refine zA ?_
      refine zB ?_
      refine wl_pure Tryz.hT rfl rfl rfl ?_
      refine wl_pure Tryz.hT rfl rfl rfl ?_
      refine wl_pure Tryz.hT rfl rfl rfl ?_
      refine wl_pure Tryz.hT rfl rfl rfl ?_
      refine wl_pure Tryz.hT rfl rfl rfl ?_
      refine wl_rem rfl rfl rfl rfl rfl (by omega) ?_
      refine wl_upd 74 (.int .i64 (nxt (rg rs r).length k : Nat)) rfl (congrArg (Value.int .i64) (show Int.tmod (w64 ((k : Int) + 1)) ((rg rs r).length : Nat) = ((nxt (rg rs r).length k : Nat) : Int) by rw [w64_id (by omega) (by omega)]; rfl)) ?_
      refine wl_indexAddr Tryz.hT rfl rfl rfl rfl rfl rfl rfl (by omega) (by omega) ?_
      refine wl_load rfl rfl rfl rfl (fun W hp => RowAt.load 0 Tryz.hT rfl ((fun W hp => (hrq _ hnk).hp hp) W hp) rfl) ?_
      (refine wl_allocZ Tryz.hZ rfl rfl rfl rfl ?_; intro)
      refine wl_storeBx 4 Tryz.hT rfl rfl rfl rfl rfl rfl rfl rfl rfl rfl rfl ?_
      refine wl_nil ?_
      rename_i b15
      obtain ⟨C1, c1⟩ : ∃ b, ((sd (rg rs r) k).x == (sd (rg rs r) (nxt (rg rs r).length k)).x) = b := ⟨_, rfl⟩
      obtain ⟨C2, c2⟩ : ∃ b, decide (loy (sd (rg rs r) k) (sd (rg rs r) (nxt (rg rs r).length k)) ≤ (lev rs).getD i 0) = b := ⟨_, rfl⟩
      obtain ⟨C3, c3⟩ : ∃ b, decide (hiy (sd (rg rs r) k) (sd (rg rs r) (nxt (rg rs r).length k)) ≥ (lev rs).getD (i + 1) 0) = b := ⟨_, rfl⟩
      have hC : slabB (sd (rg rs r) k) (sd (rg rs r) (nxt (rg rs r).length k)) xa xb = (C1 && C2 && C3) := by
        rw [← c1, ← c2, ← c3, hxa, hxb]; rfl
      have no : slabB (sd (rg rs r) k) (sd (rg rs r) (nxt (rg rs r).length k)) xa xb = false → xsUp (rg rs r) xa xb (k + 1) = xsUp (rg rs r) xa xb k := fun h => by
        show (if _ then _ else _) = _
        rw [h]; rfl
      have yes : slabB (sd (rg rs r) k) (sd (rg rs r) (nxt (rg rs r).length k)) xa xb = true → xsUp (rg rs r) xa xb (k + 1) = xsUp (rg rs r) xa xb k ++ [(sd (rg rs r) k).x] := fun h => by
        show (if _ then _ else _) = _
        rw [h]; rfl
      have hlx := len_xsRs rs xa xb r (by omega)
      have hlu := len_xsUp (rg rs r) xa xb k
      have htk := tot_take_le rs r
      refine zE ?_
      refine zA ?_
      refine zT Tryz.mixed (by kernel_rfl) ?_
      refine wq_pure Tryz.hT rfl rfl rfl ?_
      refine wq_loadBx 3 Tryz.hT rfl rfl rfl rfl rfl rfl rfl rfl ?_
      refine wq_pure Tryz.hT rfl rfl rfl ?_
      refine wq_loadBx 4 Tryz.hT rfl rfl rfl rfl rfl rfl rfl rfl ?_
      refine wq_pure Tryz.hT rfl rfl rfl ?_
      refine wq_pure Tryz.hT rfl rfl rfl ?_
      refine wq_part 82 rfl (fun h82 => ?_) (fun h82 => ?_)
      · refine wq_pure Tryz.hT rfl rfl rfl ?_
        refine wq_loadBx 3 Tryz.hT rfl rfl rfl rfl rfl rfl rfl rfl ?_
        refine wq_pure Tryz.hT rfl rfl rfl ?_
        refine wq_loadBx 4 Tryz.hT rfl rfl rfl rfl rfl rfl rfl rfl ?_
        refine wq_pure Tryz.hT rfl rfl rfl ?_
        refine wq_pure Tryz.hT rfl rfl rfl ?_
        refine wq_pure Tryz.hT rfl rfl rfl ?_
        refine wq_pure Tryz.hT rfl rfl rfl ?_
        refine wq_upd 90 (.int .i64 (i : Nat)) rfl (congrArg (Value.int .i64) (show w64 (((i + 1 : Nat) : Int) - 1) = (i : Nat) by rw [w64_id (by omega) (by omega)]; omega)) ?_
        refine wq_indexAddr Tryz.hT rfl rfl rfl rfl rfl rfl rfl (by omega) (by omega) ?_
        refine wq_load rfl rfl rfl rfl (fun W hp => RowAt.load 0 Tryz.hT rfl ((fun W hp => ci_at hp 1 rfl hi) W hp) rfl) ?_
        refine wq_pure Tryz.hT rfl rfl rfl ?_
        refine wq_pure Tryz.hT rfl rfl rfl ?_
        refine wq_pure Tryz.hT rfl rfl rfl ?_
        refine wq_part 95 rfl (fun h95 => ?_) (fun h95 => ?_)
        · refine wq_pure Tryz.hT rfl rfl rfl ?_
          refine wq_loadBx 3 Tryz.hT rfl rfl rfl rfl rfl rfl rfl rfl ?_
          refine wq_pure Tryz.hT rfl rfl rfl ?_
          refine wq_loadBx 4 Tryz.hT rfl rfl rfl rfl rfl rfl rfl rfl ?_
          refine wq_pure Tryz.hT rfl rfl rfl ?_
          refine wq_pure Tryz.hT rfl rfl rfl ?_
          refine wq_pure Tryz.hT rfl rfl rfl ?_
          refine wq_indexAddr Tryz.hT rfl rfl rfl rfl rfl rfl rfl (by omega) (by omega) ?_
          refine wq_load rfl rfl rfl rfl (fun W hp => RowAt.load 0 Tryz.hT rfl ((fun W hp => ci_at hp 1 rfl hi1) W hp) rfl) ?_
          refine wq_pure Tryz.hT rfl rfl rfl ?_
          refine wq_pure Tryz.hT rfl rfl rfl ?_
          refine wq_nil ?_
          refine wl_nil ?_
          refine zE ?_
          refine wc_cond rfl (fun hx => ?_) (fun hx => ?_)
          · have en := yes (hC.trans (by rw [show C1 = true from c1.symm.trans h82, show C2 = true from c2.symm.trans h95, show C3 = true from c3.symm.trans hx]; rfl))
            have el : (xsRs rs xa xb r ++ xsUp (rg rs r) xa xb (k + 1)).length = (xsRs rs xa xb r ++ xsUp (rg rs r) xa xb k).length + 1 := by rw [en, List.length_append, List.length_append, List.length_append]; rfl
            refine zB ?_
            refine wl_pure Tryz.hT rfl rfl rfl ?_
            refine wl_pure Tryz.hT rfl rfl rfl ?_
            refine wl_loadBx 3 Tryz.hT rfl rfl rfl rfl rfl rfl rfl rfl ?_
            (refine wl_buildRowZ Tryz.hZ Tryz.hT rfl rfl rfl rfl rfl rfl rfl rfl rfl rfl rfl ?_; intro)
            refine wl_appendTo (V := V2) (len := (xsRs rs xa xb r ++ xsUp (rg rs r) xa xb k).length) (xs := ci (xsRs rs xa xb r ++ xsUp (rg rs r) xa xb k)) 2 5 Tryz.vec60 (xsRs rs xa xb r ++ xsUp (rg rs r) xa xb (k + 1)).length (ci (xsRs rs xa xb r ++ xsUp (rg rs r) xa xb (k + 1))) rfl rfl rfl rfl rfl rfl rfl rfl rfl rfl rfl hV2 rfl rfl el.symm (by show ci (xsRs rs xa xb r ++ xsUp (rg rs r) xa xb k) ++ ci [(sd (rg rs r) k).x] = _; rw [en, ← List.append_assoc]; exact List.map_append.symm) (by rw [el, List.length_append]; simp only [maxLen]; omega) (by rw [el, List.length_append]; omega) rfl ?_
            intro g2 c2' j2 hV3
            refine wl_pure Tryz.hT rfl rfl rfl ?_
            refine wl_nil ?_
            refine zN ?_
            refine zE ?_
            refine zB ?_
            refine wl_pure Tryz.hT rfl rfl rfl ?_
            refine wl_pure Tryz.hT rfl rfl rfl ?_
            refine wl_nil ?_
            exact ne_loop (k + 1, ⟨some g2, c2', j2⟩) ⟨hk, hV3⟩ (by show (rg rs r).length - (k + 1) < (rg rs r).length - k; omega) ⟨rfl, rfl, rfl, rfl, rfl, rfl, rfl, rfl, rfl, rfl, rfl, congrArg (fun z => some (Value.int .i64 z)) (wrap_id (x := (k : Int) + 1) (by omega) (by omega)), trivial⟩ [_, _, _] rfl
          · have en := no (hC.trans (by rw [show C3 = false from c3.symm.trans hx, Bool.and_false]))
            refine zI ?_
            refine zN ?_
            refine zE ?_
            refine zB ?_
            refine wl_pure Tryz.hT rfl rfl rfl ?_
            refine wl_pure Tryz.hT rfl rfl rfl ?_
            refine wl_nil ?_
            exact ne_loop (k + 1, V2) ⟨hk, by show V2.OK 1 (_ ++ xsUp (rg rs r) xa xb (k + 1)).length (ci (_ ++ xsUp (rg rs r) xa xb (k + 1))); rw [en]; exact hV2⟩ (by show (rg rs r).length - (k + 1) < (rg rs r).length - k; omega) ⟨rfl, rfl, rfl, rfl, congrArg (fun l => some (V2.val (xsRs rs xa xb r ++ l).length)) en.symm, rfl, rfl, rfl, rfl, rfl, rfl, congrArg (fun z => some (Value.int .i64 z)) (wrap_id (x := (k : Int) + 1) (by omega) (by omega)), trivial⟩ [⟨b14, 42, (sd (rg rs r) k).cells, true, none⟩, ⟨b15, 42, (sd (rg rs r) (nxt (rg rs r).length k)).cells, true, none⟩]
              (congrArg (fun l => [(⟨b1, 24, [slv (some ⟨b, off, none⟩) rs.length cap], true, none⟩ : Bx), ⟨g, 3, ci (lev rs) ++ jl, true, none⟩, V2.bx 3 (ci (xsRs rs xa xb r ++ l)), ⟨b14, 42, (sd (rg rs r) k).cells, true, none⟩, ⟨b15, 42, (sd (rg rs r) (nxt (rg rs r).length k)).cells, true, none⟩]) en.symm)
        · refine wq_skip rfl rfl ?_
          refine wq_skip rfl rfl ?_
          refine wq_skip rfl rfl ?_
          refine wq_skip rfl rfl ?_
          refine wq_skip rfl rfl ?_
          refine wq_skip rfl rfl ?_
          refine wq_skip rfl rfl ?_
          refine wq_skip rfl rfl ?_
          refine wq_skip rfl rfl ?_
          refine wq_skip rfl rfl ?_
          refine wq_pure Tryz.hT rfl rfl rfl ?_
          refine wq_nil ?_
          refine wl_nil ?_
          have en := no (hC.trans (by first | (rw [show C1 = false from c1.symm.trans h82]; rfl) | (rw [show C2 = false from c2.symm.trans h95, Bool.and_false]; rfl)))
          refine zE ?_
          refine zS rfl ?_
          refine zI ?_
          refine zN ?_
          refine zE ?_
          refine zB ?_
          refine wl_pure Tryz.hT rfl rfl rfl ?_
          refine wl_pure Tryz.hT rfl rfl rfl ?_
          refine wl_nil ?_
          exact ne_loop (k + 1, V2) ⟨hk, by show V2.OK 1 (_ ++ xsUp (rg rs r) xa xb (k + 1)).length (ci (_ ++ xsUp (rg rs r) xa xb (k + 1))); rw [en]; exact hV2⟩ (by show (rg rs r).length - (k + 1) < (rg rs r).length - k; omega) ⟨rfl, rfl, rfl, rfl, congrArg (fun l => some (V2.val (xsRs rs xa xb r ++ l).length)) en.symm, rfl, rfl, rfl, rfl, rfl, rfl, congrArg (fun z => some (Value.int .i64 z)) (wrap_id (x := (k : Int) + 1) (by omega) (by omega)), trivial⟩ [⟨b14, 42, (sd (rg rs r) k).cells, true, none⟩, ⟨b15, 42, (sd (rg rs r) (nxt (rg rs r).length k)).cells, true, none⟩]
            (congrArg (fun l => [(⟨b1, 24, [slv (some ⟨b, off, none⟩) rs.length cap], true, none⟩ : Bx), ⟨g, 3, ci (lev rs) ++ jl, true, none⟩, V2.bx 3 (ci (xsRs rs xa xb r ++ l)), ⟨b14, 42, (sd (rg rs r) k).cells, true, none⟩, ⟨b15, 42, (sd (rg rs r) (nxt (rg rs r).length k)).cells, true, none⟩]) en.symm)
      · refine wq_skip rfl rfl ?_
        refine wq_skip rfl rfl ?_
        refine wq_skip rfl rfl ?_
        refine wq_skip rfl rfl ?_
        refine wq_skip rfl rfl ?_
        refine wq_skip rfl rfl ?_
        refine wq_skip rfl rfl ?_
        refine wq_skip rfl rfl ?_
        refine wq_skip rfl rfl ?_
        refine wq_skip rfl rfl ?_
        refine wq_skip rfl rfl ?_
        refine wq_pure Tryz.hT rfl rfl rfl ?_
        refine wq_pure Tryz.hT rfl rfl rfl ?_
        refine wq_skip rfl rfl ?_
        refine wq_skip rfl rfl ?_
        refine wq_skip rfl rfl ?_
        refine wq_skip rfl rfl ?_
        refine wq_skip rfl rfl ?_
        refine wq_skip rfl rfl ?_
        refine wq_skip rfl rfl ?_
        refine wq_skip rfl rfl ?_
        refine wq_skip rfl rfl ?_
        refine wq_skip rfl rfl ?_
        refine wq_pure Tryz.hT rfl rfl rfl ?_
        refine wq_nil ?_
        refine wl_nil ?_
        have en := no (hC.trans (by first | (rw [show C1 = false from c1.symm.trans h82]; rfl) | (rw [show C2 = false from c2.symm.trans h95, Bool.and_false]; rfl)))
        refine zE ?_
        refine zS rfl ?_
        refine zI ?_
        refine zN ?_
        refine zE ?_
        refine zB ?_
        refine wl_pure Tryz.hT rfl rfl rfl ?_
        refine wl_pure Tryz.hT rfl rfl rfl ?_
        refine wl_nil ?_
        exact ne_loop (k + 1, V2) ⟨hk, by show V2.OK 1 (_ ++ xsUp (rg rs r) xa xb (k + 1)).length (ci (_ ++ xsUp (rg rs r) xa xb (k + 1))); rw [en]; exact hV2⟩ (by show (rg rs r).length - (k + 1) < (rg rs r).length - k; omega) ⟨rfl, rfl, rfl, rfl, congrArg (fun l => some (V2.val (xsRs rs xa xb r ++ l).length)) en.symm, rfl, rfl, rfl, rfl, rfl, rfl, congrArg (fun z => some (Value.int .i64 z)) (wrap_id (x := (k : Int) + 1) (by omega) (by omega)), trivial⟩ [⟨b14, 42, (sd (rg rs r) k).cells, true, none⟩, ⟨b15, 42, (sd (rg rs r) (nxt (rg rs r).length k)).cells, true, none⟩]
          (congrArg (fun l => [(⟨b1, 24, [slv (some ⟨b, off, none⟩) rs.length cap], true, none⟩ : Bx), ⟨g, 3, ci (lev rs) ++ jl, true, none⟩, V2.bx 3 (ci (xsRs rs xa xb r ++ l)), ⟨b14, 42, (sd (rg rs r) k).cells, true, none⟩, ⟨b15, 42, (sd (rg rs r) (nxt (rg rs r).length k)).cells, true, none⟩]) en.symm)
    have e : r = rs.length := by have h' : decide ((r : Int) < (rs.length : Nat)) = false := h; rw [decide_eq_false_iff_not] at h'; omega
    subst e
    clear h
    subst hxa hxb
    have hxl := len_xsRs rs (lv rs i) (lv rs (i + 1)) rs.length (Nat.le_refl _)
    rw [List.take_length] at hxl
    have hsl : (xsS rs i).length = (xsRs rs (lv rs i) (lv rs (i + 1)) rs.length).length := srt_len _
    refine zJ ?_
    refine zK ?_
    refine zK ?_
    refine zL ?_
    refine zE ?_
    refine zA ?_
    refine zB ?_
    refine wl_pure Tryz.hT rfl rfl rfl ?_
    refine wl_sortV 2 (V := V) (zs := xsRs rs (lv rs i) (lv rs (i + 1)) rs.length) (len := (xsRs rs (lv rs i) (lv rs (i + 1)) rs.length).length) rfl rfl rfl rfl rfl rfl rfl rfl hVx (by omega) ?_
    refine wl_nil ?_
    refine zE ?_
    refine zA ?_
    refine zB ?_
    refine wl_pure Tryz.hT rfl rfl rfl ?_
    refine wl_nil ?_
    refine zE ?_
    refine zH ?_
    refine wc_loop (X := Nat) (fun k => [(1, .pointer (some ⟨b1, 0, none⟩)), (3, .slice (some ⟨g, 0, none⟩) (lev rs).length cv), (8, .int .i64 (areaAt rs i k)), (9, .int .i64 ((i + 1 : Nat) : Int)), (10, V.val (xsRs rs (lv rs i) (lv rs (i + 1)) rs.length).length), (16, .int .i64 ((2 * k + 1 : Nat) : Int))]) (fun _ => [⟨b1, 24, [slv p rs.length cap], true, none⟩, ⟨g, 3, ci (lev rs) ++ jl, true, none⟩, V.bx 3 (ci (xsS rs i))])
      (fun k => 2 * k ≤ (xsS rs i).length) (fun k => (xsS rs i).length - 2 * k) 0 (Nat.zero_le _) ⟨rfl, rfl, congrArg (fun z => some (Value.int .i64 z)) (areaAt_zero rs i).symm, rfl, rfl, rfl, trivial⟩ [] rfl ?_
    intro k hk
    obtain ⟨pw, cw, jw⟩ := V
    cases pw with
    | none =>
      have hz := hVx.nil rfl
      have ek : k = 0 := by omega
      subst ek
      refine zA ?_
      refine zA ?_
      refine zB ?_
      refine wl_pure Tryz.hT rfl rfl rfl ?_
      refine wl_pure Tryz.hT rfl rfl rfl ?_
      refine wl_pure Tryz.hT rfl rfl rfl ?_
      refine wl_upd 118 (.int .i64 0) rfl rfl ?_
      refine wl_pure Tryz.hT rfl rfl rfl ?_
      refine wl_nil ?_
      refine zE ?_
      refine zS rfl ?_
      refine zJ ?_
      refine zK ?_
      refine zK ?_
      refine zL ?_
      refine zN ?_
      refine zE ?_
      refine zB ?_
      refine wl_pure Tryz.hT rfl rfl rfl ?_
      refine wl_pure Tryz.hT rfl rfl rfl ?_
      refine wl_pure Tryz.hT rfl rfl rfl ?_
      refine wl_nil ?_
      exact ne_loop (i + 1) hi1 (by omega) ⟨rfl, rfl, congrArg (fun z => some (Value.int .i64 z)) (areaAt_all hc hi1 (by omega) (by omega)), congrArg (fun z => some (Value.int .i64 z)) (wrap_id (x := ((i + 1 : Nat) : Int) + 1) (by omega) (by omega)), trivial⟩ [_] rfl
    | some gx =>
    refine zA ?_
    refine zA ?_
    refine zB ?_
    refine wl_pure Tryz.hT rfl rfl rfl ?_
    refine wl_pure Tryz.hT rfl rfl rfl ?_
    refine wl_pure Tryz.hT rfl rfl rfl ?_
    refine wl_pure Tryz.hT rfl rfl rfl ?_
    refine wl_nil ?_
    refine zE ?_
    refine wc_cond rfl (fun h => ?_) (fun h => ?_)
    · have hk1 : 2 * k + 1 < (xsS rs i).length := by have h' : decide (((2 * k + 1 : Nat) : Int) < ((xsRs rs (lv rs i) (lv rs (i + 1)) rs.length).length : Nat)) = true := h; rw [decide_eq_true_iff] at h'; omega
      clear h
      refine zI ?_
      refine zE ?_
      refine zA ?_
      refine zH ?_
      refine zT Tryz.mixed (by kernel_rfl) ?_
      refine wq_pure Tryz.hT rfl rfl rfl ?_
      refine wq_pure Tryz.hT rfl rfl rfl ?_
      refine wq_pure Tryz.hT rfl rfl rfl ?_
      refine wq_indexAddr Tryz.hT rfl rfl rfl rfl rfl rfl rfl (by omega) (by omega) ?_
      refine wq_load rfl rfl rfl rfl (fun W hp => RowAt.load 0 Tryz.hT rfl ((fun W hp => ci_at hp 2 rfl hk1) W hp) rfl) ?_
      refine wq_pure Tryz.hT rfl rfl rfl ?_
      refine wq_pure Tryz.hT rfl rfl rfl ?_
      refine wq_pure Tryz.hT rfl rfl rfl ?_
      refine wq_upd 129 (.int .i64 ((2 * k : Nat) : Int)) rfl (congrArg (Value.int .i64) (show w64 (((2 * k + 1 : Nat) : Int) - 1) = ((2 * k : Nat) : Int) by rw [w64_id (by omega) (by omega)]; omega)) ?_
      refine wq_indexAddr Tryz.hT rfl rfl rfl rfl rfl rfl rfl (by omega) (by omega) ?_
      refine wq_load rfl rfl rfl rfl (fun W hp => RowAt.load 0 Tryz.hT rfl ((fun W hp => ci_at hp 2 rfl (show 2 * k < (xsS rs i).length by omega)) W hp) rfl) ?_
      refine wq_pure Tryz.hT rfl rfl rfl ?_
      refine wq_pure Tryz.hT rfl rfl rfl ?_
      refine wq_pure Tryz.hT rfl rfl rfl ?_
      refine wq_indexAddr Tryz.hT rfl rfl rfl rfl rfl rfl rfl (by omega) (by omega) ?_
      refine wq_load rfl rfl rfl rfl (fun W hp => RowAt.load 0 Tryz.hT rfl ((fun W hp => ci_at hp 1 rfl hi1) W hp) rfl) ?_
      refine wq_pure Tryz.hT rfl rfl rfl ?_
      refine wq_pure Tryz.hT rfl rfl rfl ?_
      refine wq_pure Tryz.hT rfl rfl rfl ?_
      refine wq_upd 139 (.int .i64 (i : Nat)) rfl (congrArg (Value.int .i64) (show w64 (((i + 1 : Nat) : Int) - 1) = (i : Nat) by rw [w64_id (by omega) (by omega)]; omega)) ?_
      refine wq_indexAddr Tryz.hT rfl rfl rfl rfl rfl rfl rfl (by omega) (by omega) ?_
      refine wq_load rfl rfl rfl rfl (fun W hp => RowAt.load 0 Tryz.hT rfl ((fun W hp => ci_at hp 1 rfl hi) W hp) rfl) ?_
      refine wq_pure Tryz.hT rfl rfl rfl ?_
      refine wq_pure Tryz.hT rfl rfl rfl ?_
      refine wq_pure Tryz.hT rfl rfl rfl ?_
      refine wq_upd 144 (.int .i64 (areaAt rs i (k + 1))) rfl (congrArg (Value.int .i64) (areaAt_step hc h12 hi1 hk1)) ?_
      refine wq_pure Tryz.hT rfl rfl rfl ?_
      refine wq_nil ?_
      refine wl_nil ?_
      refine zN ?_
      refine zE ?_
      refine zB ?_
      refine wl_pure Tryz.hT rfl rfl rfl ?_
      refine wl_pure Tryz.hT rfl rfl rfl ?_
      refine wl_pure Tryz.hT rfl rfl rfl ?_
      refine wl_nil ?_
      exact ne_loop (k + 1) (by omega) (by omega) ⟨rfl, rfl, rfl, rfl, rfl, congrArg (fun z => some (Value.int .i64 z)) (wrap_id (x := ((2 * k + 1 : Nat) : Int) + 2) (by omega) (by omega)), trivial⟩ [] rfl
    · have hk1 : (xsS rs i).length ≤ 2 * k + 1 := by have h' : decide (((2 * k + 1 : Nat) : Int) < ((xsRs rs (lv rs i) (lv rs (i + 1)) rs.length).length : Nat)) = false := h; rw [decide_eq_false_iff_not] at h'; omega
      clear h
      refine zJ ?_
      refine zK ?_
      refine zK ?_
      refine zL ?_
      refine zN ?_
      refine zE ?_
      refine zB ?_
      refine wl_pure Tryz.hT rfl rfl rfl ?_
      refine wl_pure Tryz.hT rfl rfl rfl ?_
      refine wl_pure Tryz.hT rfl rfl rfl ?_
      refine wl_nil ?_
      exact ne_loop (i + 1) hi1 (by omega) ⟨rfl, rfl, congrArg (fun z => some (Value.int .i64 z)) (areaAt_all hc hi1 hk hk1), congrArg (fun z => some (Value.int .i64 z)) (wrap_id (x := ((i + 1 : Nat) : Int) + 1) (by omega) (by omega)), trivial⟩ [_] rfl
  have e : i + 1 = (lev rs).length := by have h' : decide (((i + 1 : Nat) : Int) < ((lev rs).length : Nat)) = false := h; rw [decide_eq_false_iff_not] at h'; omega
  clear h
  have ea : areaTo rs i = areaN rs := by rw [← areaTo_all hc, ← e]; rfl
  obtain ⟨_, ha1, ha2⟩ := areaN_two hc
  have ha0 := areaN_pos hc
  refine zJ ?_
  refine zK ?_
  refine zK ?_
  refine zL ?_
  refine zE ?_
  refine zA ?_
  refine zB ?_
  refine wl_pure Tryz.hT rfl rfl rfl ?_
  refine wl_upd 146 (.int .i64 (areaN rs)) rfl (congrArg (Value.int .i64) ea) ?_
  refine wl_call1 rfl rfl rfl rfl rfl rfl (by kernel_rfl) (fun W hp => of1_gives (areaN rs) (by omega) (by omega) W (ht.hp hp)) ?_
  refine wl_pure Tryz.hT rfl rfl rfl ?_
  refine wl_pure Tryz.hT rfl rfl rfl ?_
  refine wl_pure Tryz.hT rfl rfl rfl ?_
  refine wl_pure Tryz.hT rfl rfl rfl ?_
  refine wl_pure Tryz.hT rfl rfl rfl ?_
  refine wl_nil ?_
  refine zE ?_
  refine zA ?_
  refine zB ?_
  refine wl_loadBx 0 Tryz.hT rfl rfl rfl rfl rfl rfl rfl rfl ?_
  refine wl_call1 rfl rfl rfl rfl rfl rfl (by kernel_rfl) (fun W hp => areaF_ok W p cap rs hn (hR.hp hp) hc (ht.hp hp)) ?_
  refine wl_pure Tryz.hT rfl rfl rfl ?_
  refine wl_pure Tryz.hT rfl rfl rfl ?_
  refine wl_pure Tryz.hT rfl rfl rfl ?_
  refine wl_pure Tryz.hT rfl rfl rfl ?_
  refine wl_pure Tryz.hT rfl rfl rfl ?_
  refine wl_nil ?_
  refine zE ?_
  refine zA ?_
  refine zB ?_
  refine wl_pure Tryz.hT rfl rfl rfl ?_
  refine wl_pure Tryz.hT rfl rfl rfl ?_
  refine wl_pure Tryz.hT rfl rfl rfl ?_
  refine wl_pure Tryz.hT rfl rfl rfl ?_
  refine wl_pure Tryz.hT rfl rfl rfl ?_
  refine wl_pure Tryz.hT rfl rfl rfl ?_
  refine wl_pure Tryz.hT rfl rfl rfl ?_
  refine wl_pure Tryz.hT rfl rfl rfl ?_
  refine wl_pure Tryz.hT rfl rfl rfl ?_
  refine wl_upd 163 (.bool true) rfl (congrArg Value.bool (show decide (areaTo rs i > 0) = true by rw [decide_eq_true_iff, ea]; omega)) ?_
  refine wl_pure Tryz.hT rfl rfl rfl ?_
  refine wl_pure Tryz.hT rfl rfl rfl ?_
  refine wl_pure Tryz.hT rfl rfl rfl ?_
  refine wl_pure Tryz.hT rfl rfl rfl ?_
  refine wl_pure Tryz.hT rfl rfl rfl ?_
  refine wl_upd 168 (.bool true) rfl (congrArg Value.bool (by simp)) ?_
  refine wl_pure Tryz.hT rfl rfl rfl ?_
  refine wl_pure Tryz.hT rfl rfl rfl ?_
  refine wl_call1 rfl rfl rfl rfl rfl rfl (by kernel_rfl) (fun W hp => awake_gives W (ht.hp hp)) ?_
  refine wl_pure Tryz.hT rfl rfl rfl ?_
  refine wl_pure Tryz.hT rfl rfl rfl ?_
  refine wl_nil ?_
  refine zE ?_
  refine zO ?_
  exact ne_ret1 Tryz.hT rfl (.tmp rfl) () rfl trivial fun W _ => NewBx.nil _ _
end Go.Proofs.YtnpfkmbcejgnjaaGreatDoor
