/-
  plan.Canonical at a valid plan.
-/
import Derived.Test.YtnpfkmbcejgnjaaGreatDoorCanMem
import Derived.Test.YtnpfkmbcejgnjaaGreatDoorCanAt
namespace Go.Proofs.YtnpfkmbcejgnjaaGreatDoor
open Go Go.RowKit Go.Am
set_option maxRecDepth 10000
-- BOXES 4
-- BOXIDX t1=0 t2=1 t8=5 t11=5 t14=8
theorem oldN_snoc (off j : Nat) : oldN off j ++ [((off + j : Nat) : Int)] = oldN off (j + 1) := by
  rw [← oldN_app off j 1]; rfl
theorem pairs_len (rs : List (List Sd)) : ∀ n, (pairs rs n).length = n
  | 0 => rfl
  | n + 1 => by
    show (pairs rs n ++ [pairR rs n]).length = _
    rw [List.length_append, pairs_len rs n]; rfl
theorem pairs_pos {rs : List (List Sd)} (hc : chk rs = 0) : ∀ n, n ≤ rs.length → ∀ x ∈ pairs rs n, 0 < x.1.length
  | 0, _, x, h => by cases h
  | n + 1, hn, x, h => by
    rcases List.mem_append.1 h with h | h
    · exact pairs_pos hc n (by omega) x h
    · obtain rfl := List.mem_singleton.1 h
      show 0 < (can1 (rg rs n)).length
      rw [can1_len]
      exact List.length_pos_iff.2 ((chk_ne hc).1 _ (List.mem_of_getElem? (rg_get (by omega))))
set_option maxHeartbeats 16000000 in
theorem canonical_gives (W : World) (p : Option Addr) (cap : Nat) (rs : List (List Sd)) (hn : rs.length < 1099511627776) (hR : RingsP W p rs) (hc : chk rs = 0) (h12 : tot rs ≤ 12) :
    CallsR Tryz.prog 38 #[planV p rs.length cap] W (fun x : Vec × Made × Nat => .tuple #[.agg #[x.1.val (canR rs).length], .slice (some ⟨x.2.2, 0, none⟩) (tot rs) (tot rs), .int .i64 0]) (fun x => MadeOK x.2.1 (canR rs) ∧ x.1.OK 1 (canR rs).length (rowCells x.2.1)) (fun x => [x.1.bx 27 (rowCells x.2.1), mkB x.2.1, ⟨x.2.2, 3, ci (numsOf rs), true, none⟩]) := by
  obtain ⟨hne, hT24, hne0⟩ := chk_ne hc
  have h3 := rings3 hc h12
  refine calls_enter (args := [planV p rs.length cap]) Tryz.func38 rfl rfl rfl ?_
  refine zA ?_
  refine zB ?_
  (refine wl_box rfl rfl rfl rfl ?_; intro)
  (refine wl_allocZ Tryz.hZ rfl rfl rfl rfl ?_; intro)
  refine wl_pure Tryz.hT rfl rfl rfl ?_
  refine wl_pure Tryz.hT rfl rfl rfl ?_
  refine wl_nil ?_
  rename_i b1 b2
  refine zE ?_
  refine zA ?_
  refine zA ?_
  refine zB ?_
  refine wl_loadBx 0 Tryz.hT rfl rfl rfl rfl rfl rfl rfl rfl ?_
  refine wl_call1 rfl rfl rfl rfl rfl rfl (by kernel_rfl) (fun W hp => (check_gives W p cap rs (by omega) (by omega) (hR.hp hp)).cast (by rw [hc])) ?_
  refine wl_pure Tryz.hT rfl rfl rfl ?_
  refine wl_nil ?_
  refine zE ?_
  refine zS rfl ?_
  refine zI ?_
  refine zE ?_
  refine zA ?_
  refine zB ?_
  refine wl_pure Tryz.hT rfl rfl rfl ?_
  refine wl_nil ?_
  refine zE ?_
  refine zA ?_
  refine zB ?_
  refine wl_pure Tryz.hT rfl rfl rfl ?_
  refine wl_nil ?_
  refine zE ?_
  refine zA ?_
  refine zA ?_
  refine zB ?_
  refine wl_pure Tryz.hT rfl rfl rfl ?_
  refine wl_loadBx 0 Tryz.hT rfl rfl rfl rfl rfl rfl rfl rfl ?_
  refine wl_pure Tryz.hT rfl rfl rfl ?_
  refine wl_pure Tryz.hT rfl rfl rfl ?_
  refine wl_nil ?_
  refine zE ?_
  refine zH ?_
  refine wc_newGone ?_
  refine wc_newGrp ?_
  refine wc_newGrp ?_
  refine wc_loop (X := Nat × Vec × MadeP) (fun x => [(2, .pointer (some ⟨b2, 0, none⟩)), (5, x.2.1.val x.1), (6, .int .i64 (tot (rs.take x.1) : Nat)), (22, slv p rs.length cap), (23, .int .i64 (rs.length : Nat)), (24, .int .i64 (x.1 : Nat))])
    (fun x => [⟨b1, 24, [slv p rs.length cap], true, none⟩, ⟨b2, 24, [slv none 0 0], true, none⟩, x.2.1.bx 119 (prCells x.2.2), mkB (x.2.2.map (·.1)), numB (x.2.2.map (·.2))])
    (fun x => x.1 ≤ rs.length ∧ PairsOK x.2.2 (pairs rs x.1) ∧ x.2.1.OK 2 x.1 (prCells x.2.2)) (fun x => rs.length - x.1) (0, Vec.empty, []) ⟨Nat.zero_le _, ⟨rfl, fun p hp => by cases hp⟩, Vec.OK.empty 2⟩ ⟨rfl, rfl, rfl, rfl, rfl, rfl, trivial⟩ [] rfl ?_
  rintro ⟨k, V, mp⟩ ⟨hk, hmp, hV⟩
  change k ≤ rs.length at hk
  change PairsOK mp (pairs rs k) at hmp
  change V.OK 2 k (prCells mp) at hV
  refine zA ?_
  refine zB ?_
  refine wl_pure Tryz.hT rfl rfl rfl ?_
  refine wl_nil ?_
  refine zE ?_
  refine zA ?_
  refine wc_cond rfl (fun h => ?_) (fun h => ?_)
  · have hk : k < rs.length := by have h' : decide ((k : Int) < (rs.length : Nat)) = true := h; rw [decide_eq_true_iff] at h'; omega
    clear h
    obtain ⟨b, off, rfl, hrow⟩ := hR.row hk
    obtain ⟨q, cap2, hq1, hq2⟩ := hrow k hk
    have t1 := tot_take_succ hk
    have t2 := tot_take_le rs (k + 1)
    have hd := ring_dist hc hk
    have hat := at_lt hc hk
    have hcl : (can1 (rg rs k)).length = (rg rs k).length := can1_len _
    have hol : (rot (oldN (tot (rs.take k)) (rg rs k).length) (atS (rg rs k))).length = (rg rs k).length := by rw [rot_len, oldN_len]
    obtain ⟨o, ho⟩ : ∃ o, tot (rs.take k) = o := ⟨_, rfl⟩
    obtain ⟨m, hm⟩ : ∃ m, (rg rs k).length = m := ⟨_, rfl⟩
    have t1' : ((tot (rs.take (k + 1)) : Nat) : Int) = ((o + m : Nat) : Int) := by rw [t1, ho, hm]
    refine zI ?_
    refine zE ?_
    refine zA ?_
    refine zH ?_
    refine zA ?_
    refine zB ?_
    refine wl_indexAddr Tryz.hT rfl rfl rfl rfl rfl rfl rfl (by omega) (by omega) ?_
    refine wl_load rfl rfl rfl rfl (fun W hp => RowAt.load 0 Tryz.hT rfl ((fun W hp => hq1.hp hp) W hp) rfl) ?_
    (refine wl_allocZ Tryz.hZ rfl rfl rfl rfl ?_; intro)
    refine wl_storeBx 5 Tryz.hT rfl rfl rfl rfl rfl rfl rfl rfl rfl rfl rfl ?_
    refine wl_nil ?_
    rename_i b8
    refine zE ?_
    refine zA ?_
    refine zB ?_
    refine wl_pure Tryz.hT rfl rfl rfl ?_
    refine wl_nil ?_
    refine zE ?_
    refine zA ?_
    refine zA ?_
    refine zB ?_
    refine wl_loadBx 5 Tryz.hT rfl rfl rfl rfl rfl rfl rfl rfl ?_
    refine wl_pure Tryz.hT rfl rfl rfl ?_
    refine wl_pure Tryz.hT rfl rfl rfl ?_
    refine wl_nil ?_
    refine zE ?_
    refine zH ?_
    refine wc_newGone ?_
    refine wc_loop (X := Nat × Vec) (fun x => [(2, .pointer (some ⟨b2, 0, none⟩)), (5, V.val k), (6, .int .i64 ((o + x.1 : Nat) : Int)), (22, slv (some ⟨b, off, none⟩) rs.length cap), (23, .int .i64 (rs.length : Nat)), (24, .int .i64 (k : Nat)), (8, .pointer (some ⟨b8, 0, none⟩)), (9, x.2.val x.1), (29, .int .i64 (m : Nat)), (30, .int .i64 (x.1 : Nat))])
      (fun x => [⟨b1, 24, [slv (some ⟨b, off, none⟩) rs.length cap], true, none⟩, ⟨b2, 24, [slv none 0 0], true, none⟩, V.bx 119 (prCells mp), mkB (mp.map (·.1)), numB (mp.map (·.2)), ⟨b8, 27, [slv q (rg rs k).length cap2], true, none⟩, x.2.bx 3 (ci (oldN o x.1))])
      (fun x => x.1 ≤ m ∧ x.2.OK 1 x.1 (ci (oldN o x.1))) (fun x => m - x.1) (0, Vec.empty) ⟨Nat.zero_le _, Vec.OK.empty 1⟩ ⟨rfl, rfl, by rw [← ho]; rfl, rfl, rfl, rfl, rfl, rfl, by rw [← hm]; rfl, rfl, trivial⟩ [] rfl ?_
    rintro ⟨j, U⟩ ⟨hj, hU⟩
    change j ≤ m at hj
    change U.OK 1 j (ci (oldN o j)) at hU
    refine zA ?_
    refine zB ?_
    refine wl_pure Tryz.hT rfl rfl rfl ?_
    refine wl_nil ?_
    refine zE ?_
    refine zA ?_
    refine wc_cond rfl (fun h => ?_) (fun h => ?_)
    · have hj : j < m := by have h' : decide ((j : Int) < (m : Nat)) = true := h; rw [decide_eq_true_iff] at h'; omega
      clear h
      refine zI ?_
      refine zE ?_
      refine zA ?_
      refine zH ?_
      refine zA ?_
      refine zB ?_
      refine wl_pure Tryz.hT rfl rfl rfl ?_
      refine wl_pure Tryz.hT rfl rfl rfl ?_
      (refine wl_buildRowZ Tryz.hZ Tryz.hT rfl rfl rfl rfl rfl rfl rfl rfl rfl rfl rfl ?_; intro)
      refine wl_appendTo (V := U) (len := j) (xs := ci (oldN o j)) 6 7 Tryz.vec60 (j + 1) (ci (oldN o (j + 1))) rfl rfl rfl rfl rfl rfl rfl rfl rfl rfl rfl hU rfl rfl rfl (by show ci (oldN o j) ++ ci [((o + j : Nat) : Int)] = _; rw [← oldN_snoc]; exact (ci_append _ _).symm) (by simp only [maxLen]; omega) (by omega) rfl ?_
      intro g c1 j1 hV1
      refine wl_pure Tryz.hT rfl rfl rfl ?_
      refine wl_nil ?_
      refine zE ?_
      refine zB ?_
      refine wl_pure Tryz.hT rfl rfl rfl ?_
      refine wl_pure Tryz.hT rfl rfl rfl ?_
      refine wl_pure Tryz.hT rfl rfl rfl ?_
      refine wl_nil ?_
      refine zN ?_
      refine zE ?_
      refine zB ?_
      refine wl_pure Tryz.hT rfl rfl rfl ?_
      refine wl_pure Tryz.hT rfl rfl rfl ?_
      refine wl_nil ?_
      exact ne_loop (j + 1, ⟨some g, c1, j1⟩) ⟨hj, hV1⟩ (by show m - (j + 1) < m - j; omega) ⟨rfl, rfl, congrArg (fun z => some (Value.int .i64 z)) (wrap_id (x := ((o + j : Nat) : Int) + 1) (by omega) (by omega)), rfl, rfl, rfl, rfl, rfl, rfl, congrArg (fun z => some (Value.int .i64 z)) (wrap_id (x := (j : Int) + 1) (by omega) (by omega)), trivial⟩ [_] rfl
    have e : j = m := by have h' : decide ((j : Int) < (m : Nat)) = false := h; rw [decide_eq_false_iff_not] at h'; omega
    subst e
    clear h
    obtain ⟨pU, cU, jU⟩ := U
    cases pU with
    | none => have := hU.nil rfl; omega
    | some gU =>
    refine zJ ?_
    refine zK ?_
    refine zK ?_
    refine zL ?_
    refine zE ?_
    refine zA ?_
    refine zB ?_
    refine wl_loadBx 5 Tryz.hT rfl rfl rfl rfl rfl rfl rfl rfl ?_
    refine wl_pure Tryz.hT rfl rfl rfl ?_
    refine wl_call1 rfl rfl rfl rfl rfl rfl (by kernel_rfl) (fun W hp => indexC_gives 88 (by kernel_rfl) [.pointer (some ⟨b8, 0, none⟩)] (isAt (rg rs k)) W q cap2 (rg rs k) (by omega) (hq2.hp hp) fun W' hb s => canon1_gives W' b8 q cap2 (rg rs k) (by omega) (by omega) ((RowAt.of_bx hp 5 rfl rfl).below (Nat.le_refl _) hb) ((hq2.hp hp).below (Nat.le_refl _) hb) s) ?_
    refine wl_upd 41 (.int .i64 (atS (rg rs k) : Nat)) rfl (congrArg (Value.int .i64) (isAt_idx hd (by omega))) ?_
    refine wl_pure Tryz.hT rfl rfl rfl ?_
    refine wl_nil ?_
    refine zE ?_
    refine zB ?_
    refine wl_pure Tryz.hT rfl rfl rfl ?_
    refine wl_loadBx 5 Tryz.hT rfl rfl rfl rfl rfl rfl rfl rfl ?_
    refine wl_pure Tryz.hT rfl rfl rfl ?_
    refine wl_call (X := Vec) rfl rfl rfl rfl rfl rfl (by kernel_rfl) (fun W hp => rotside_gives W q cap2 (rg rs k) (atS (rg rs k)) hat (by omega) (hq2.hp hp)) ?_
    rintro ⟨pS, cS, jS⟩ ⟨hS, hSp⟩
    cases pS with
    | none => exact absurd rfl hSp
    | some gS =>
    refine wl_pure Tryz.hT rfl rfl rfl ?_
    refine wl_pure Tryz.hT rfl rfl rfl ?_
    refine wl_call (X := Vec) rfl rfl rfl rfl rfl rfl (by kernel_rfl) (fun W hp => by
      have h := rotnum_gives W gU 0 cU (oldN o j) (atS (rg rs k)) (by rw [oldN_len]; omega) (by rw [oldN_len]; omega) (row_pt hp 6 (A := []) (C := jU) rfl rfl rfl)
      rw [oldN_len] at h
      exact h) ?_
    rintro ⟨pN, cN, jN⟩ ⟨hN, hNp⟩
    cases pN with
    | none => exact absurd rfl hNp
    | some gN =>
    have hx1 : (⟨some gS, cS, jS⟩ : Vec).OK 7 (can1 (rg rs k)).length (cellsOf (can1 (rg rs k))) := by rw [hcl]; exact hS
    have ho2 : (rot (oldN o j) (atS (rg rs k))).length = j := by rw [← ho, ← hm]; exact hol
    have hx2 : (⟨some gN, cN, jN⟩ : Vec).OK 1 (rot (oldN o j) (atS (rg rs k))).length (ci (rot (oldN o j) (atS (rg rs k)))) := by rw [ho2]; exact hN
    have hpv : prV (((⟨some gS, cS, jS⟩ : Vec), can1 (rg rs k)), ((⟨some gN, cN, jN⟩ : Vec), rot (oldN o j) (atS (rg rs k)))) = [slv (some ⟨gS, 0, none⟩) (rg rs k).length cS, slv (some ⟨gN, 0, none⟩) j cN] := by
      show [slv (some ⟨gS, 0, none⟩) (can1 (rg rs k)).length cS, slv (some ⟨gN, 0, none⟩) (rot (oldN o j) (atS (rg rs k))).length cN] = _
      rw [hcl, ho2]
    have hpair : pairR rs k = (can1 (rg rs k), rot (oldN o j) (atS (rg rs k))) := by rw [← ho, ← hm]; rfl
    refine wl_buildZ Tryz.hZ Tryz.hT rfl rfl rfl rfl rfl rfl rfl rfl ?_
    (refine wl_buildRowZ Tryz.hZ Tryz.hT rfl rfl rfl rfl rfl rfl rfl rfl rfl rfl rfl ?_; intro)
    refine wl_appendTo (V := V) (len := k) (xs := prCells mp) 2 9 Tryz.vec112 (k + 1) (prCells (mp ++ [(((⟨some gS, cS, jS⟩ : Vec), can1 (rg rs k)), ((⟨some gN, cN, jN⟩ : Vec), rot (oldN o j) (atS (rg rs k))))])) rfl rfl rfl rfl rfl rfl rfl rfl rfl rfl rfl hV rfl rfl rfl (by rw [prCells_snoc, hpv]; rfl) (by simp only [maxLen]; omega) (by omega) rfl ?_
    intro g1 c1 j1 hV1
    refine wl_pure Tryz.hT rfl rfl rfl ?_
    refine wl_nil ?_
    refine zN ?_
    refine zE ?_
    refine zB ?_
    refine wl_pure Tryz.hT rfl rfl rfl ?_
    refine wl_pure Tryz.hT rfl rfl rfl ?_
    refine wl_nil ?_
    refine ne_join 3 7 (mkB ((mp ++ [(((⟨some gS, cS, jS⟩ : Vec), can1 (rg rs k)), ((⟨some gN, cN, jN⟩ : Vec), rot (oldN o j) (atS (rg rs k))))]).map (·.1))) rfl rfl rfl (by rw [List.map_append]; exact mkB_snoc _ _ _) ?_
    refine ne_join 4 8 (numB ((mp ++ [(((⟨some gS, cS, jS⟩ : Vec), can1 (rg rs k)), ((⟨some gN, cN, jN⟩ : Vec), rot (oldN o j) (atS (rg rs k))))]).map (·.2))) rfl rfl rfl (by rw [List.map_append]; exact numB_snoc _ _ _) ?_
    exact ne_loop (k + 1, ⟨some g1, c1, j1⟩, mp ++ [(((⟨some gS, cS, jS⟩ : Vec), can1 (rg rs k)), ((⟨some gN, cN, jN⟩ : Vec), rot (oldN o j) (atS (rg rs k))))])
      ⟨hk, by show PairsOK _ (pairs rs k ++ [pairR rs k]); rw [hpair]; exact hmp.snoc hx1 hx2 (by simp) (by simp), hV1⟩ (by show rs.length - (k + 1) < rs.length - k; omega)
      ⟨rfl, rfl, congrArg (fun z : Int => some (Value.int .i64 z)) t1'.symm, rfl, rfl, congrArg (fun z => some (Value.int .i64 z)) (wrap_id (x := (k : Int) + 1) (by omega) (by omega)), trivial⟩ [_, _, gone, gone, _] rfl
  have e : k = rs.length := by have h' : decide ((k : Int) < (rs.length : Nat)) = false := h; rw [decide_eq_false_iff_not] at h'; omega
  subst e
  clear h
  obtain ⟨pV, cV, jV⟩ := V
  cases pV with
  | none => have := hV.nil rfl; omega
  | some g =>
  have hcV : rs.length ≤ cV := (hV.cap (by simp)).1
  have hml : mp.length = rs.length := by rw [hmp.len, pairs_len]
  have hmq0 := hmp.sort
  obtain ⟨mq, emq⟩ : ∃ mq, sort2M mp = mq := ⟨_, rfl⟩
  have hpm : mq.Perm mp := by rw [← emq]; exact sort2M_perm mp
  rw [emq] at hmq0
  have hmq : PairsOK mq (canP rs) := hmq0
  have hql : mq.length = rs.length := by rw [hpm.length_eq, hml]
  have hne2 : ∀ x ∈ mp, 0 < x.1.2.length := fun x hx => by
    have h1 : (x.1.2, x.2.2) ∈ pairs rs rs.length := by rw [← hmp.eq]; exact List.mem_map.2 ⟨x, hx, rfl⟩
    exact pairs_pos hc _ (Nat.le_refl _) _ h1
  refine zJ ?_
  refine zK ?_
  refine zK ?_
  refine zL ?_
  refine zE ?_
  refine zA ?_
  refine zB ?_
  refine wl_pure Tryz.hT rfl rfl rfl ?_
  refine wl_slice_l 1 Tryz.hT rfl rfl rfl rfl rfl rfl rfl rfl (by show 1 ≤ rs.length; omega) hcV ?_
  refine wl_sortP 2 3 (m := rs.length) (mp := mp) rfl rfl rfl rfl rfl rfl rfl rfl (by decide) h3 (fun h => (if_neg (show ¬ cV = 1 by omega)).trans rfl) hml (fun x hx => ⟨(hmp.ok x hx).2.2.1, (hmp.ok x hx).2.2.2, hne2 x hx⟩) ?_
  rw [emq]
  refine wl_nil ?_
  refine zE ?_
  refine wc_regroup 3 (mkB (mq.map (·.1))) rfl (mkB_perm (hpm.map _)) ?_
  refine wc_regroup 4 (numB (mq.map (·.2))) rfl (numB_perm (hpm.map _)) ?_
  refine zA ?_
  refine zB ?_
  (refine wl_allocZ Tryz.hZ rfl rfl rfl rfl ?_; intro)
  refine wl_nil ?_
  rename_i b11
  refine zE ?_
  refine zA ?_
  refine zB ?_
  refine wl_pure Tryz.hT rfl rfl rfl ?_
  refine wl_makeSlice Tryz.vec60 (tot rs) rfl rfl rfl rfl rfl (by rw [List.take_length]) (by rw [List.take_length]) (by simp only [maxLen]; omega) (by omega) ?_
  intro bN
  rw [repL_ci]
  refine wl_pure Tryz.hT rfl rfl rfl ?_
  refine wl_nil ?_
  refine zE ?_
  refine zA ?_
  refine zB ?_
  refine wl_pure Tryz.hT rfl rfl rfl ?_
  refine wl_nil ?_
  refine zE ?_
  refine zA ?_
  refine zA ?_
  refine zB ?_
  refine wl_pure Tryz.hT rfl rfl rfl ?_
  refine wl_pure Tryz.hT rfl rfl rfl ?_
  refine wl_pure Tryz.hT rfl rfl rfl ?_
  refine wl_nil ?_
  refine zE ?_
  refine zH ?_
  refine wc_newGone ?_
  refine wc_loop (X := Nat × Vec) (fun x => [(2, .pointer (some ⟨b2, 0, none⟩)), (6, .int .i64 (((mq.take x.1).flatMap (·.2.2)).length : Nat)), (11, .pointer (some ⟨b11, 0, none⟩)), (12, .slice (some ⟨bN, 0, none⟩) (tot rs) (tot rs)), (58, .slice (some ⟨g, 0, none⟩) rs.length cV), (59, .int .i64 (rs.length : Nat)), (60, .int .i64 (x.1 : Nat))])
    (fun x => [⟨b1, 24, [slv p rs.length cap], true, none⟩, ⟨b2, 24, [slv none 0 0], true, none⟩, ⟨g, 119, prCells mq ++ jV, true, none⟩, mkB (mq.map (·.1)), numB (mq.map (·.2)), ⟨b11, 24, [x.2.val x.1], true, none⟩, ⟨bN, 3, ci (fill (List.replicate (tot rs) 0) 0 ((mq.take x.1).flatMap (·.2.2))), true, none⟩, x.2.bx 27 (rowCells ((mq.take x.1).map (·.1)))])
    (fun x => x.1 ≤ rs.length ∧ x.2.OK 1 x.1 (rowCells ((mq.take x.1).map (·.1)))) (fun x => rs.length - x.1) (0, Vec.empty) ⟨Nat.zero_le _, Vec.OK.empty 1⟩ ⟨rfl, rfl, rfl, rfl, rfl, rfl, rfl, trivial⟩ [] rfl ?_
  rintro ⟨k, V2⟩ ⟨hk, hV2⟩
  change k ≤ rs.length at hk
  change V2.OK 1 k (rowCells ((mq.take k).map (·.1))) at hV2
  have hold : olds rs = mq.flatMap (·.2.2) := by
    unfold olds
    rw [← hmq.eq]
    exact List.flatMap_map ..
  refine zA ?_
  refine zB ?_
  refine wl_pure Tryz.hT rfl rfl rfl ?_
  refine wl_nil ?_
  refine zE ?_
  refine zA ?_
  refine wc_cond rfl (fun h => ?_) (fun h => ?_)
  · have hk : k < rs.length := by have h' : decide ((k : Int) < (rs.length : Nat)) = true := h; rw [decide_eq_true_iff] at h'; omega
    clear h
    obtain ⟨x, hx⟩ : ∃ x, mq[k]? = some x := ⟨_, List.getElem?_eq_getElem (by omega)⟩
    have hxm := List.mem_of_getElem? hx
    have htk : mq.take (k + 1) = mq.take k ++ [x] := by rw [List.take_add_one, hx]; rfl
    have hsp := prCells_split hx
    obtain ⟨hx1, hx2, hx3, hx4⟩ := hmq.ok x hxm
    have hxo : ∀ o ∈ x.2.2, 0 ≤ o ∧ o < (tot rs : Nat) := fun o ho => olds_mem rs (by rw [hold]; exact List.mem_flatMap.2 ⟨x, hxm, ho⟩)
    obtain ⟨⟨⟨pS, cS, jS⟩, ls⟩, ⟨⟨pN, cN, jN⟩, on⟩⟩ := x
    cases pS with
    | none => exact absurd rfl hx3
    | some gS =>
    cases pN with
    | none => exact absurd rfl hx4
    | some gN =>
    have hlo : ((mq.take k).flatMap (·.2.2)).length + on.length ≤ tot rs := by
      have h1 : (mq.take (k + 1)).flatMap (·.2.2) = (mq.take k).flatMap (·.2.2) ++ on := by rw [htk, List.flatMap_append]; simp
      have h2 : mq.flatMap (·.2.2) = (mq.take (k + 1)).flatMap (·.2.2) ++ (mq.drop (k + 1)).flatMap (·.2.2) := by rw [← List.flatMap_append, List.take_append_drop]
      have h4 := olds_len rs
      rw [hold, h2, h1, List.length_append, List.length_append] at h4
      omega
    refine zI ?_
    refine zE ?_
    refine zA ?_
    refine zH ?_
    refine zA ?_
    refine zB ?_
    refine wl_indexAddr Tryz.hT rfl rfl rfl rfl rfl rfl rfl (by omega) (by omega) ?_
    refine wl_load rfl rfl rfl rfl (fun W hp => RowAt.load 0 Tryz.hT rfl ((fun W1 hp => show RowAt W1 g (0 + k * 2) [slv (some ⟨gS, 0, none⟩) ls.length cS, slv (some ⟨gN, 0, none⟩) on.length cN] from row_pt hp 2 (A := prCells (mq.take k)) (C := prCells (mq.drop (k + 1)) ++ jV) rfl (by rw [hsp, List.append_assoc, List.append_assoc]; rfl) (by rw [prCells_len, List.length_take]; omega)) W hp) rfl) ?_
    (refine wl_allocZ Tryz.hZ rfl rfl rfl rfl ?_; intro)
    refine wl_storeBx 8 Tryz.hT rfl rfl rfl rfl rfl rfl rfl rfl rfl rfl rfl ?_
    refine wl_nil ?_
    rename_i b14
    refine zE ?_
    refine zA ?_
    refine zB ?_
    refine wl_pure Tryz.hT rfl rfl rfl ?_
    refine wl_loadBx 5 Tryz.hT rfl rfl rfl rfl rfl rfl rfl rfl ?_
    refine wl_pure Tryz.hT rfl rfl rfl ?_
    refine wl_loadBx 8 Tryz.hT rfl rfl rfl rfl rfl rfl rfl rfl ?_
    (refine wl_buildRowZ Tryz.hZ Tryz.hT rfl rfl rfl rfl rfl rfl rfl rfl rfl rfl rfl ?_; intro)
    refine wl_appendTo (V := V2) (len := k) (xs := rowCells ((mq.take k).map (·.1))) 7 9 Tryz.vec22 (k + 1) (rowCells ((mq.take (k + 1)).map (·.1))) rfl rfl rfl rfl rfl rfl rfl rfl rfl rfl rfl hV2 rfl rfl rfl (by rw [htk, List.map_append]; show rowCells _ ++ [slv (some ⟨gS, 0, none⟩) ls.length cS] = rowCells (_ ++ [((⟨some gS, cS, jS⟩ : Vec), ls)]); exact (rowCells_snoc (List.map (·.1) (mq.take k)) ⟨some gS, cS, jS⟩ ls).symm) (by simp only [maxLen]; omega) (by omega) rfl ?_
    intro g2 c2 j2 hV3
    refine wl_pure Tryz.hT rfl rfl rfl ?_
    refine wl_storeBx 5 Tryz.hT rfl rfl rfl rfl rfl rfl rfl rfl rfl rfl rfl ?_
    refine wl_nil ?_
    refine zE ?_
    refine zA ?_
    refine zB ?_
    refine wl_pure Tryz.hT rfl rfl rfl ?_
    refine wl_loadBx 8 Tryz.hT rfl rfl rfl rfl rfl rfl rfl rfl ?_
    refine wl_pure Tryz.hT rfl rfl rfl ?_
    refine wl_pure Tryz.hT rfl rfl rfl ?_
    refine wl_nil ?_
    refine zE ?_
    refine zH ?_
    obtain ⟨L, eL⟩ : ∃ L, (mq.take k).flatMap (·.2.2) = L := ⟨_, rfl⟩
    rw [eL] at hlo
    refine wc_loop (X := Nat) (fun j => [(2, .pointer (some ⟨b2, 0, none⟩)), (6, .int .i64 ((L.length + j : Nat) : Int)), (11, .pointer (some ⟨b11, 0, none⟩)), (12, .slice (some ⟨bN, 0, none⟩) (tot rs) (tot rs)), (58, .slice (some ⟨g, 0, none⟩) rs.length cV), (59, .int .i64 (rs.length : Nat)), (60, .int .i64 (k : Nat)), (72, .slice (some ⟨gN, 0, none⟩) on.length cN), (73, .int .i64 (on.length : Nat)), (74, .int .i64 (j : Nat))])
      (fun j => [⟨b1, 24, [slv p rs.length cap], true, none⟩, ⟨b2, 24, [slv none 0 0], true, none⟩, ⟨g, 119, prCells mq ++ jV, true, none⟩, mkB (mq.map (·.1)), numB (mq.map (·.2)), ⟨b11, 24, [slv (some ⟨g2, 0, none⟩) (k + 1) c2], true, none⟩, ⟨bN, 3, ci (fill (List.replicate (tot rs) 0) 0 (L ++ on.take j)), true, none⟩, ⟨g2, 27, rowCells ((mq.take (k + 1)).map (·.1)) ++ j2, true, none⟩])
      (fun j => j ≤ on.length) (fun j => on.length - j) 0 (Nat.zero_le _) ⟨rfl, congrArg (fun l : List Int => some (Value.int .i64 (l.length : Nat))) eL, rfl, rfl, rfl, rfl, rfl, rfl, rfl, rfl, trivial⟩ [_, _] (by rw [← eL]; simp only [List.take_zero, List.append_nil]; rfl) ?_
    intro j hj
    refine zA ?_
    refine zB ?_
    refine wl_pure Tryz.hT rfl rfl rfl ?_
    refine wl_nil ?_
    refine zE ?_
    refine zA ?_
    refine wc_cond rfl (fun h => ?_) (fun h => ?_)
    · have hj : j < on.length := by have h' : decide ((j : Int) < (on.length : Nat)) = true := h; rw [decide_eq_true_iff] at h'; omega
      clear h
      obtain ⟨z, hz⟩ : ∃ z, on.getD j 0 = z := ⟨_, rfl⟩
      have hzj : on[j]? = some z := by rw [← hz, List.getD_eq_getElem?_getD, List.getElem?_eq_getElem hj]; rfl
      obtain ⟨hz0, hz1⟩ := hxo z (List.mem_of_getElem? hzj)
      have htj : on.take (j + 1) = on.take j ++ [z] := by rw [List.take_add_one, hzj]; rfl
      have hset : ci ((fill (List.replicate (tot rs) 0) 0 (L ++ on.take j)).set z.toNat ((L.length + j : Nat) : Int)) = ci (fill (List.replicate (tot rs) 0) 0 (L ++ on.take (j + 1))) := by
        rw [htj, ← List.append_assoc, fill_snoc, List.length_append, List.length_take, Nat.min_eq_left (Nat.le_of_lt hj), Nat.zero_add]
      have hfl : (fill (List.replicate (tot rs) 0) 0 (L ++ on.take j)).length = tot rs := by rw [fill_len, List.length_replicate]
      refine zI ?_
      refine zE ?_
      refine zA ?_
      refine zH ?_
      refine zA ?_
      refine zB ?_
      refine wl_indexAddr Tryz.hT rfl rfl rfl rfl rfl rfl rfl (by omega) (by omega) ?_
      refine wl_load rfl rfl rfl rfl (fun W hp => RowAt.load 0 Tryz.hT rfl ((fun W1 hp => num_grp hp 4 rfl (x := (⟨some gN, cN, jN⟩, on)) (List.mem_map.2 ⟨_, hxm, rfl⟩) rfl hj) W hp) rfl) ?_
      refine wl_upd 77 (.int .i64 z) rfl (congrArg (Value.int .i64) hz) ?_
      refine wl_pure Tryz.hT rfl rfl rfl ?_
      refine wl_nil ?_
      refine zE ?_
      refine zA ?_
      refine zB ?_
      refine wl_pure Tryz.hT rfl rfl rfl ?_
      refine wl_pure Tryz.hT rfl rfl rfl ?_
      refine wl_pure Tryz.hT rfl rfl rfl ?_
      refine wl_indexAddr Tryz.hT rfl rfl rfl rfl rfl rfl rfl (by omega) (by omega) ?_
      refine wl_storeTo 6 (ci (fill (List.replicate (tot rs) 0) 0 (L ++ on.take (j + 1)))) Tryz.hT rfl rfl rfl rfl rfl rfl rfl rfl rfl rfl (by show 0 + z.toNat * 1 + 1 ≤ (ci (fill (List.replicate (tot rs) 0) 0 (L ++ on.take j))).length; rw [List.length_map, hfl]; omega) (by
        have h1 := set_num ((L.length + j : Nat) : Int) (junk := []) (L := fill (List.replicate (tot rs) 0) 0 (L ++ on.take j)) (j := z.toNat) (by rw [hfl]; omega)
        rw [List.append_nil, List.append_nil, hset] at h1
        show splice _ (0 + z.toNat * 1) _ = _
        rw [Nat.zero_add]
        exact h1) ?_
      refine wl_nil ?_
      refine zE ?_
      refine zB ?_
      refine wl_pure Tryz.hT rfl rfl rfl ?_
      refine wl_pure Tryz.hT rfl rfl rfl ?_
      refine wl_pure Tryz.hT rfl rfl rfl ?_
      refine wl_nil ?_
      refine zN ?_
      refine zE ?_
      refine zB ?_
      refine wl_pure Tryz.hT rfl rfl rfl ?_
      refine wl_pure Tryz.hT rfl rfl rfl ?_
      refine wl_nil ?_
      exact ne_loop (j + 1) hj (by omega) ⟨rfl, congrArg (fun z => some (Value.int .i64 z)) (wrap_id (x := ((L.length + j : Nat) : Int) + 1) (by omega) (by omega)), rfl, rfl, rfl, rfl, rfl, rfl, rfl, congrArg (fun z => some (Value.int .i64 z)) (wrap_id (x := (j : Int) + 1) (by omega) (by omega)), trivial⟩ [] rfl
    have e : j = on.length := by have h' : decide ((j : Int) < (on.length : Nat)) = false := h; rw [decide_eq_false_iff_not] at h'; omega
    subst e
    clear h
    have hL2 : (mq.take (k + 1)).flatMap (·.2.2) = L ++ on.take on.length := by rw [htk, List.flatMap_append, eL, List.take_length]; simp
    refine zJ ?_
    refine zK ?_
    refine zK ?_
    refine zL ?_
    refine zN ?_
    refine zE ?_
    refine zB ?_
    refine wl_pure Tryz.hT rfl rfl rfl ?_
    refine wl_pure Tryz.hT rfl rfl rfl ?_
    refine wl_nil ?_
    exact ne_loop (k + 1, ⟨some g2, c2, j2⟩) ⟨hk, hV3⟩ (by show rs.length - (k + 1) < rs.length - k; omega) ⟨rfl, congrArg (fun n : Nat => some (Value.int .i64 (n : Int))) (by rw [hL2, List.length_append, List.take_length]), rfl, rfl, rfl, rfl, congrArg (fun z => some (Value.int .i64 z)) (wrap_id (x := (k : Int) + 1) (by omega) (by omega)), trivial⟩ []
      (congrArg (fun l => [(⟨b1, 24, [slv p rs.length cap], true, none⟩ : Bx), ⟨b2, 24, [slv none 0 0], true, none⟩, ⟨g, 119, prCells mq ++ jV, true, none⟩, mkB (mq.map (·.1)), numB (mq.map (·.2)), ⟨b11, 24, [slv (some ⟨g2, 0, none⟩) (k + 1) c2], true, none⟩, ⟨bN, 3, ci (fill (List.replicate (tot rs) 0) 0 l), true, none⟩, ⟨g2, 27, rowCells ((mq.take (k + 1)).map (·.1)) ++ j2, true, none⟩]) hL2.symm)
  have e : k = rs.length := by have h' : decide ((k : Int) < (rs.length : Nat)) = false := h; rw [decide_eq_false_iff_not] at h'; omega
  subst e
  clear h
  have hcl : (canR rs).length = rs.length := by unfold canR; rw [List.length_map, ← hmq.len, hql]
  have htk : mq.take rs.length = mq := List.take_of_length_le (by omega)
  rw [htk] at hV2
  obtain ⟨pV2, cV2, jV2⟩ := V2
  cases pV2 with
  | none => have := hV2.nil rfl; omega
  | some g2 =>
  have hns : fill (List.replicate (tot rs) 0) 0 ((mq.take rs.length).flatMap (·.2.2)) = numsOf rs := by rw [htk, ← hold]; rfl
  refine zJ ?_
  refine zK ?_
  refine zK ?_
  refine zL ?_
  refine zE ?_
  refine zA ?_
  refine zB ?_
  refine wl_loadBx 5 Tryz.hT rfl rfl rfl rfl rfl rfl rfl rfl ?_
  refine wl_pure Tryz.hT rfl rfl rfl ?_
  refine wl_storeBx 1 Tryz.hT rfl rfl rfl rfl rfl rfl rfl rfl rfl rfl rfl ?_
  refine wl_pure Tryz.hT rfl rfl rfl ?_
  refine wl_pure Tryz.hT rfl rfl rfl ?_
  refine wl_nil ?_
  refine zE ?_
  refine zO ?_
  refine ne_ret3 Tryz.hT rfl (.cell 1 rfl rfl rfl rfl rfl) (.tmp rfl) (.tmp rfl) (⟨some g2, cV2, jV2⟩, mq.map (·.1), bN) (by show Value.tuple #[.agg #[.slice (some ⟨g2, 0, none⟩) rs.length cV2], _, _] = .tuple #[.agg #[.slice (some ⟨g2, 0, none⟩) (canR rs).length cV2], _, _]; rw [hcl]) ⟨⟨?_, fun x hx => ?_⟩, by show Vec.OK _ 1 (canR rs).length _; rw [hcl]; exact hV2⟩ fun W hp => ?_
  · unfold canR
    rw [← hmq.eq, List.map_map, List.map_map]; rfl
  · obtain ⟨y, hy, rfl⟩ := List.mem_map.1 hx
    exact (hmq.ok y hy).1
  · have h1 := (hp.pick (l := [(⟨some g2, cV2, jV2⟩ : Vec).bx 27 (rowCells ((mq.take rs.length).map (·.1))), mkB (mq.map (·.1)), ⟨bN, 3, ci (fill (List.replicate (tot rs) 0) 0 ((mq.take rs.length).flatMap (·.2.2))), true, none⟩]) [7, 3, 6] (by decide) rfl).own
    rw [hns, htk] at h1
    exact h1
end Go.Proofs.YtnpfkmbcejgnjaaGreatDoor
