/-
  Lemmas that the theorem beamBalance_upto_card needs (part 5 of 5).
-/
import Derived.Test.YtddadjbflgdomaaGreatDoorBqd
import Derived.Shelf.SlicesG.CompactS
import Derived.Test.YtddadjbflgdomaaGreatDoorRows
import Derived.Test.YtddadjbflgdomaaGreatDoorCards
import Derived.Test.YtddadjbflgdomaaGreatDoorTie
import Derived.Deep.Slices
import Derived.ChangeArms
import Derived.ChangeShapes
import Derived.WideShapes
import Derived.Carry
import Derived.ProofKit
import Derived.OpenShut
import Derived.Deep.DeepHandedRow
import Derived.Lib.LaidTab
import Derived.Stop.LaidErr
import Derived.Lay
import Derived.SevenTiedAt
import Derived.Shelf.Vars
namespace Go.Proofs.YtddadjbflgdomaaGreatDoor
open Go Go.RowKit Go.Am Go.Lib
set_option maxRecDepth 10000
-- BOXES 5
set_option maxHeartbeats 16000000 in
theorem shear_gives (b : BmP) (x : Rat) (p q : Option Addr) (m n : Nat) (W : World) (hM : BmM W b p q) (hz : ShZ b x) :
    CallsR Tryz.prog 50 #[bmV b p m q n, str (numS x)] W (fun _ : Unit => str (numS (b.shear x))) (fun _ => True) (fun _ => []) := by
  refine calls_enter (args := [bmV b p m q n, str (numS x)]) Tryz.func50 rfl rfl rfl ?_
  refine zA ?_
  refine zB ?_
  (refine wl_box rfl rfl rfl rfl ?_; intro)
  refine wl_pure Tryz.hT rfl rfl rfl ?_
  refine wl_nil ?_
  rename_i b2
  refine zE ?_
  refine zA ?_
  refine zB ?_
  (refine wl_allocZ Tryz.hZ rfl rfl rfl rfl ?_; intro)
  refine wl_storeBx 1 Tryz.hT rfl rfl rfl rfl rfl rfl rfl rfl rfl rfl rfl ?_
  refine wl_nil ?_
  rename_i b5
  refine ne_bx (bxs' := [bmB b2 b p m q n, sumB b5 0]) (by show _ = [bmB b2 b p m q n, (⟨b5, 27, [str (numS 0)], true, none⟩ : Bx)]; rw [numS_zero]; rfl) ?_
  refine zE ?_
  iterate 2 refine zA ?_
  refine zB ?_
  refine wl_loadBx 0 Tryz.hT rfl rfl rfl rfl rfl rfl rfl rfl ?_
  refine wl_call (X := Nat) rfl rfl rfl rfl rfl rfl (by kernel_rfl) (fun W1 hp => supports_gives b p q m n W1 (hM.hp hp) hz.rc) ?_
  intro bS _
  iterate 2 refine wl_pure Tryz.hT rfl rfl rfl ?_
  refine wl_nil ?_
  refine zE ?_
  refine zH ?_
  refine wc_loop (X := Nat) (fun i => [(1, str (numS x)), (2, selfP b2), (5, selfP b5), (9, .slice (some ⟨bS, 0, none⟩) 2 2), (10, .int .i64 2), (11, .int .i64 (i : Nat))]) (fun i => [bmB b2 b p m q n, sumB b5 (b.supS x i), supV bS b])
    (fun i => i ≤ 2) (fun i => 2 - i) 0 (Nat.zero_le _) ⟨rfl, rfl, rfl, rfl, rfl, rfl, trivial⟩ [] rfl ?_
  intro i hi
  have hi : i = 0 ∨ i = 1 ∨ i = 2 := by have : i ≤ 2 := hi; omega
  rcases hi with rfl | rfl | rfl
  · refine zA ?_
    refine zB ?_
    refine wl_pure Tryz.hT rfl rfl rfl ?_
    refine wl_nil ?_
    refine zE ?_
    refine zA ?_
    refine zR rfl ?_
    refine zI ?_
    refine zE ?_
    refine zA ?_
    refine zH ?_
    refine zA ?_
    refine zB ?_
    refine wl_indexAddr Tryz.hT rfl rfl rfl rfl rfl rfl rfl (by omega) (by omega) ?_
    refine wl_load rfl rfl rfl rfl (fun W hp => RowAt.load 0 Tryz.hT rfl ((fun W hp => RowAt.of_bx hp 2 rfl rfl) W hp) rfl) ?_
    (refine wl_allocZ Tryz.hZ rfl rfl rfl rfl ?_; intro)
    refine wl_storeBx 3 Tryz.hT rfl rfl rfl rfl rfl rfl rfl rfl rfl rfl rfl ?_
    refine wl_nil ?_
    refine zE ?_
    refine zA ?_
    refine zB ?_
    refine wl_pure Tryz.hT rfl rfl rfl ?_
    refine wl_loadBx 3 Tryz.hT rfl rfl rfl rfl rfl rfl rfl rfl ?_
    refine wl_pure Tryz.hT rfl rfl rfl ?_
    refine wl_call1 rfl rfl rfl rfl rfl rfl (by kernel_rfl) (fun W1 hp => bcompare_gives b.l x hz.c1 W1 (hM.v.hp hp) (hM.t.hp hp)) ?_
    refine wl_pure Tryz.hT rfl rfl rfl ?_
    refine wl_upd 19 (.bool (decide (b.l ≤ x))) rfl (congrArg Value.bool (cmpQ_le0 b.l x)) ?_
    refine wl_nil ?_
    refine zE ?_
    refine wc_cond rfl (fun h => ?_) (fun h => ?_)
    · have hle : b.l ≤ x := of_decide_eq_true h
      refine zB ?_
      refine wl_loadBx 1 Tryz.hT rfl rfl rfl rfl rfl rfl rfl rfl ?_
      refine wl_pure Tryz.hT rfl rfl rfl ?_
      refine wl_loadBx 3 Tryz.hT rfl rfl rfl rfl rfl rfl rfl rfl ?_
      refine wl_call1 rfl rfl rfl rfl rfl rfl (by kernel_rfl) (fun W1 hp => badd_gives 0 b.left hz.a1 W1 (hM.v.hp hp) (hM.t.hp hp)) ?_
      refine wl_storeBx 1 Tryz.hT rfl rfl rfl rfl rfl rfl rfl rfl rfl rfl rfl ?_
      refine wl_nil ?_
      refine zN ?_
      refine zE ?_
      refine zB ?_
      iterate 2 refine wl_pure Tryz.hT rfl rfl rfl ?_
      refine wl_nil ?_
      exact ne_loop 1 (by decide) (by decide) ⟨rfl, rfl, rfl, rfl, rfl, rfl, trivial⟩ [_] (by rw [show b.supS x 1 = 0 + b.left by rw [Rat.zero_add]; exact if_pos hle]; rfl)
    · have hle : ¬ b.l ≤ x := of_decide_eq_false h
      refine zI ?_
      refine zN ?_
      refine zE ?_
      refine zB ?_
      iterate 2 refine wl_pure Tryz.hT rfl rfl rfl ?_
      refine wl_nil ?_
      exact ne_loop 1 (by decide) (by decide) ⟨rfl, rfl, rfl, rfl, rfl, rfl, trivial⟩ [_] (by rw [show b.supS x 1 = 0 from if_neg hle]; rfl)
  · refine zA ?_
    refine zB ?_
    refine wl_pure Tryz.hT rfl rfl rfl ?_
    refine wl_nil ?_
    refine zE ?_
    refine zA ?_
    refine zR rfl ?_
    refine zI ?_
    refine zE ?_
    refine zA ?_
    refine zH ?_
    refine zA ?_
    refine zB ?_
    refine wl_indexAddr Tryz.hT rfl rfl rfl rfl rfl rfl rfl (by omega) (by omega) ?_
    refine wl_load rfl rfl rfl rfl (fun W hp => RowAt.load 2 Tryz.hT rfl ((fun W hp => RowAt.of_bx hp 2 rfl rfl) W hp) rfl) ?_
    (refine wl_allocZ Tryz.hZ rfl rfl rfl rfl ?_; intro)
    refine wl_storeBx 3 Tryz.hT rfl rfl rfl rfl rfl rfl rfl rfl rfl rfl rfl ?_
    refine wl_nil ?_
    refine zE ?_
    refine zA ?_
    refine zB ?_
    refine wl_pure Tryz.hT rfl rfl rfl ?_
    refine wl_loadBx 3 Tryz.hT rfl rfl rfl rfl rfl rfl rfl rfl ?_
    refine wl_pure Tryz.hT rfl rfl rfl ?_
    refine wl_call1 rfl rfl rfl rfl rfl rfl (by kernel_rfl) (fun W1 hp => bcompare_gives b.r x hz.c2 W1 (hM.v.hp hp) (hM.t.hp hp)) ?_
    refine wl_pure Tryz.hT rfl rfl rfl ?_
    refine wl_upd 19 (.bool (decide (b.r ≤ x))) rfl (congrArg Value.bool (cmpQ_le0 b.r x)) ?_
    refine wl_nil ?_
    refine zE ?_
    refine wc_cond rfl (fun h => ?_) (fun h => ?_)
    · have hle : b.r ≤ x := of_decide_eq_true h
      refine zB ?_
      refine wl_loadBx 1 Tryz.hT rfl rfl rfl rfl rfl rfl rfl rfl ?_
      refine wl_pure Tryz.hT rfl rfl rfl ?_
      refine wl_loadBx 3 Tryz.hT rfl rfl rfl rfl rfl rfl rfl rfl ?_
      refine wl_call1 rfl rfl rfl rfl rfl rfl (by kernel_rfl) (fun W1 hp => badd_gives (b.supS x 1) b.right hz.a2 W1 (hM.v.hp hp) (hM.t.hp hp)) ?_
      refine wl_storeBx 1 Tryz.hT rfl rfl rfl rfl rfl rfl rfl rfl rfl rfl rfl ?_
      refine wl_nil ?_
      refine zN ?_
      refine zE ?_
      refine zB ?_
      iterate 2 refine wl_pure Tryz.hT rfl rfl rfl ?_
      refine wl_nil ?_
      exact ne_loop 2 (by decide) (by decide) ⟨rfl, rfl, rfl, rfl, rfl, rfl, trivial⟩ [_] (by rw [show b.supS x 2 = b.supS x 1 + b.right by show (if b.l ≤ x then b.left else 0) + (if b.r ≤ x then b.right else 0) = _; rw [if_pos hle]; rfl]; rfl)
    · have hle : ¬ b.r ≤ x := of_decide_eq_false h
      refine zI ?_
      refine zN ?_
      refine zE ?_
      refine zB ?_
      iterate 2 refine wl_pure Tryz.hT rfl rfl rfl ?_
      refine wl_nil ?_
      exact ne_loop 2 (by decide) (by decide) ⟨rfl, rfl, rfl, rfl, rfl, rfl, trivial⟩ [_] (by rw [show b.supS x 2 = b.supS x 1 by show (if b.l ≤ x then b.left else 0) + (if b.r ≤ x then b.right else 0) = _; rw [if_neg hle, Rat.add_zero]; rfl]; rfl)
  refine zA ?_
  refine zB ?_
  refine wl_pure Tryz.hT rfl rfl rfl ?_
  refine wl_nil ?_
  refine zE ?_
  refine zA ?_
  refine zS rfl ?_
  refine zJ ?_
  iterate 2 refine zK ?_
  refine zL ?_
  refine zE ?_
  refine zA ?_
  refine zB ?_
  refine wl_loadBx 0 Tryz.hT rfl rfl rfl rfl rfl rfl rfl rfl ?_
  iterate 2 refine wl_pure Tryz.hT rfl rfl rfl ?_
  refine wl_callN (X := Unit) (val := fun _ => .tuple #[]) (Φ := fun _ => True) (capt := []) 1 (B := sumB b5 (b.sup x)) (L1 := []) (L2 := []) (b := b5) (ob := sumO (b.sup x)) (fun _ => sumB b5 (b.shear x)) (g' := fun _ => b5) (o' := fun _ => sumO (b.shear x))
    rfl rfl rfl rfl rfl rfl (by kernel_rfl) rfl rfl (fun _ _ => rfl) (fun W1 hp => ?_) (fun _ _ => ?_)
  · have hcell := hp.own.cell 1 _ rfl (b5, sumO (b.sup x)) (List.mem_cons_self ..)
    have h1 := fold_gives (each_shear b5) b x p q m n (b.sup x) W1 hcell.1 (fun W2 hk => ⟨⟨(hM.keep hp hk hcell.2).v, (hM.keep hp hk hcell.2).t⟩, hM.keep hp hk hcell.2⟩) hz.z hz.rc.lf hz.rc.ls hz.t
    rw [show accQ tS (b.sup x) (b.pts x) = b.shear x from (shear_acc b x).symm] at h1
    exact h1
  refine wl_nil ?_
  refine zE ?_
  refine zA ?_
  refine zB ?_
  refine wl_loadBx 1 Tryz.hT rfl rfl rfl rfl rfl rfl rfl rfl ?_
  refine wl_pure Tryz.hT rfl rfl rfl ?_
  refine wl_nil ?_
  refine zE ?_
  refine zO ?_
  exact ne_ret1 Tryz.hT rfl (.tmp rfl) () rfl trivial fun W _ => NewBx.nil _ _
set_option maxHeartbeats 16000000 in
theorem moment_gives (b : BmP) (x : Rat) (p q : Option Addr) (m n : Nat) (W : World) (hM : BmM W b p q) (hz : MoZ b x) :
    CallsR Tryz.prog 36 #[bmV b p m q n, str (numS x)] W (fun _ : Unit => str (numS (b.moment x))) (fun _ => True) (fun _ => []) := by
  refine calls_enter (args := [bmV b p m q n, str (numS x)]) Tryz.func36 rfl rfl rfl ?_
  refine zA ?_
  refine zB ?_
  (refine wl_box rfl rfl rfl rfl ?_; intro)
  (refine wl_box rfl rfl rfl rfl ?_; intro)
  refine wl_pure Tryz.hT rfl rfl rfl ?_
  refine wl_nil ?_
  rename_i b2 b3
  refine zE ?_
  refine zA ?_
  refine zB ?_
  (refine wl_allocZ Tryz.hZ rfl rfl rfl rfl ?_; intro)
  refine wl_storeBx 2 Tryz.hT rfl rfl rfl rfl rfl rfl rfl rfl rfl rfl rfl ?_
  refine wl_nil ?_
  rename_i b5
  refine ne_bx (bxs' := [bmB b2 b p m q n, ⟨b3, 27, [str (numS x)], true, none⟩, sumB b5 0]) (by show _ = [bmB b2 b p m q n, (⟨b3, 27, [str (numS x)], true, none⟩ : Bx), (⟨b5, 27, [str (numS 0)], true, none⟩ : Bx)]; rw [numS_zero]; rfl) ?_
  refine zE ?_
  iterate 2 refine zA ?_
  refine zB ?_
  refine wl_loadBx 0 Tryz.hT rfl rfl rfl rfl rfl rfl rfl rfl ?_
  refine wl_call (X := Nat) rfl rfl rfl rfl rfl rfl (by kernel_rfl) (fun W1 hp => supports_gives b p q m n W1 (hM.hp hp) hz.rc) ?_
  intro bS _
  iterate 2 refine wl_pure Tryz.hT rfl rfl rfl ?_
  refine wl_nil ?_
  refine zE ?_
  refine zH ?_
  refine wc_loop (X := Nat) (fun i => [(2, selfP b2), (3, selfP b3), (5, selfP b5), (9, .slice (some ⟨bS, 0, none⟩) 2 2), (10, .int .i64 2), (11, .int .i64 (i : Nat))]) (fun i => [bmB b2 b p m q n, ⟨b3, 27, [str (numS x)], true, none⟩, sumB b5 (b.supT x i), supV bS b])
    (fun i => i ≤ 2) (fun i => 2 - i) 0 (Nat.zero_le _) ⟨rfl, rfl, rfl, rfl, rfl, rfl, trivial⟩ [] rfl ?_
  intro i hi
  have hi : i = 0 ∨ i = 1 ∨ i = 2 := by have : i ≤ 2 := hi; omega
  rcases hi with rfl | rfl | rfl
  · refine zA ?_
    refine zB ?_
    refine wl_pure Tryz.hT rfl rfl rfl ?_
    refine wl_nil ?_
    refine zE ?_
    refine zA ?_
    refine zR rfl ?_
    refine zI ?_
    refine zE ?_
    refine zA ?_
    refine zH ?_
    refine zA ?_
    refine zB ?_
    refine wl_indexAddr Tryz.hT rfl rfl rfl rfl rfl rfl rfl (by omega) (by omega) ?_
    refine wl_load rfl rfl rfl rfl (fun W hp => RowAt.load 0 Tryz.hT rfl ((fun W hp => RowAt.of_bx hp 3 rfl rfl) W hp) rfl) ?_
    (refine wl_allocZ Tryz.hZ rfl rfl rfl rfl ?_; intro)
    refine wl_storeBx 4 Tryz.hT rfl rfl rfl rfl rfl rfl rfl rfl rfl rfl rfl ?_
    refine wl_nil ?_
    refine zE ?_
    refine zA ?_
    refine zB ?_
    refine wl_pure Tryz.hT rfl rfl rfl ?_
    refine wl_loadBx 4 Tryz.hT rfl rfl rfl rfl rfl rfl rfl rfl ?_
    refine wl_loadBx 1 Tryz.hT rfl rfl rfl rfl rfl rfl rfl rfl ?_
    refine wl_call1 rfl rfl rfl rfl rfl rfl (by kernel_rfl) (fun W1 hp => bcompare_gives b.l x hz.c1 W1 (hM.v.hp hp) (hM.t.hp hp)) ?_
    refine wl_pure Tryz.hT rfl rfl rfl ?_
    refine wl_upd 19 (.bool (decide (b.l < x))) rfl (congrArg Value.bool (cmpQ_lt0 b.l x)) ?_
    refine wl_nil ?_
    refine zE ?_
    refine wc_cond rfl (fun h => ?_) (fun h => ?_)
    · have hle : b.l < x := of_decide_eq_true h
      refine zT Tryz.mixed (by kernel_rfl) ?_
      refine wq_loadBx 2 Tryz.hT rfl rfl rfl rfl rfl rfl rfl rfl ?_
      refine wq_pure Tryz.hT rfl rfl rfl ?_
      refine wq_loadBx 4 Tryz.hT rfl rfl rfl rfl rfl rfl rfl rfl ?_
      refine wq_loadBx 1 Tryz.hT rfl rfl rfl rfl rfl rfl rfl rfl ?_
      refine wq_pure Tryz.hT rfl rfl rfl ?_
      refine wq_loadBx 4 Tryz.hT rfl rfl rfl rfl rfl rfl rfl rfl ?_
      refine wq_call1 rfl rfl rfl rfl rfl rfl (by kernel_rfl) (fun W1 hp => bsub_gives x b.l hz.s1 W1 (hM.v.hp hp) (hM.t.hp hp)) ?_
      refine wq_call1 rfl rfl rfl rfl rfl rfl (by kernel_rfl) (fun W1 hp => bmul_gives b.left (x - b.l) hz.m1 W1 (hM.v.hp hp) (hM.t.hp hp)) ?_
      refine wq_call1 rfl rfl rfl rfl rfl rfl (by kernel_rfl) (fun W1 hp => badd_gives 0 (b.left * (x - b.l)) hz.a1 W1 (hM.v.hp hp) (hM.t.hp hp)) ?_
      refine wq_nil ?_
      refine wl_storeBx 2 Tryz.hT rfl rfl rfl rfl rfl rfl rfl rfl rfl rfl rfl ?_
      refine wl_nil ?_
      refine zN ?_
      refine zE ?_
      refine zB ?_
      iterate 2 refine wl_pure Tryz.hT rfl rfl rfl ?_
      refine wl_nil ?_
      exact ne_loop 1 (by decide) (by decide) ⟨rfl, rfl, rfl, rfl, rfl, rfl, trivial⟩ [_] (by rw [show b.supT x 1 = 0 + b.left * (x - b.l) by rw [Rat.zero_add]; exact if_pos hle]; rfl)
    · have hle : ¬ b.l < x := of_decide_eq_false h
      refine zI ?_
      refine zN ?_
      refine zE ?_
      refine zB ?_
      iterate 2 refine wl_pure Tryz.hT rfl rfl rfl ?_
      refine wl_nil ?_
      exact ne_loop 1 (by decide) (by decide) ⟨rfl, rfl, rfl, rfl, rfl, rfl, trivial⟩ [_] (by rw [show b.supT x 1 = 0 from if_neg hle]; rfl)
  · refine zA ?_
    refine zB ?_
    refine wl_pure Tryz.hT rfl rfl rfl ?_
    refine wl_nil ?_
    refine zE ?_
    refine zA ?_
    refine zR rfl ?_
    refine zI ?_
    refine zE ?_
    refine zA ?_
    refine zH ?_
    refine zA ?_
    refine zB ?_
    refine wl_indexAddr Tryz.hT rfl rfl rfl rfl rfl rfl rfl (by omega) (by omega) ?_
    refine wl_load rfl rfl rfl rfl (fun W hp => RowAt.load 2 Tryz.hT rfl ((fun W hp => RowAt.of_bx hp 3 rfl rfl) W hp) rfl) ?_
    (refine wl_allocZ Tryz.hZ rfl rfl rfl rfl ?_; intro)
    refine wl_storeBx 4 Tryz.hT rfl rfl rfl rfl rfl rfl rfl rfl rfl rfl rfl ?_
    refine wl_nil ?_
    refine zE ?_
    refine zA ?_
    refine zB ?_
    refine wl_pure Tryz.hT rfl rfl rfl ?_
    refine wl_loadBx 4 Tryz.hT rfl rfl rfl rfl rfl rfl rfl rfl ?_
    refine wl_loadBx 1 Tryz.hT rfl rfl rfl rfl rfl rfl rfl rfl ?_
    refine wl_call1 rfl rfl rfl rfl rfl rfl (by kernel_rfl) (fun W1 hp => bcompare_gives b.r x hz.c2 W1 (hM.v.hp hp) (hM.t.hp hp)) ?_
    refine wl_pure Tryz.hT rfl rfl rfl ?_
    refine wl_upd 19 (.bool (decide (b.r < x))) rfl (congrArg Value.bool (cmpQ_lt0 b.r x)) ?_
    refine wl_nil ?_
    refine zE ?_
    refine wc_cond rfl (fun h => ?_) (fun h => ?_)
    · have hle : b.r < x := of_decide_eq_true h
      refine zT Tryz.mixed (by kernel_rfl) ?_
      refine wq_loadBx 2 Tryz.hT rfl rfl rfl rfl rfl rfl rfl rfl ?_
      refine wq_pure Tryz.hT rfl rfl rfl ?_
      refine wq_loadBx 4 Tryz.hT rfl rfl rfl rfl rfl rfl rfl rfl ?_
      refine wq_loadBx 1 Tryz.hT rfl rfl rfl rfl rfl rfl rfl rfl ?_
      refine wq_pure Tryz.hT rfl rfl rfl ?_
      refine wq_loadBx 4 Tryz.hT rfl rfl rfl rfl rfl rfl rfl rfl ?_
      refine wq_call1 rfl rfl rfl rfl rfl rfl (by kernel_rfl) (fun W1 hp => bsub_gives x b.r hz.s2 W1 (hM.v.hp hp) (hM.t.hp hp)) ?_
      refine wq_call1 rfl rfl rfl rfl rfl rfl (by kernel_rfl) (fun W1 hp => bmul_gives b.right (x - b.r) hz.m2 W1 (hM.v.hp hp) (hM.t.hp hp)) ?_
      refine wq_call1 rfl rfl rfl rfl rfl rfl (by kernel_rfl) (fun W1 hp => badd_gives (b.supT x 1) (b.right * (x - b.r)) hz.a2 W1 (hM.v.hp hp) (hM.t.hp hp)) ?_
      refine wq_nil ?_
      refine wl_storeBx 2 Tryz.hT rfl rfl rfl rfl rfl rfl rfl rfl rfl rfl rfl ?_
      refine wl_nil ?_
      refine zN ?_
      refine zE ?_
      refine zB ?_
      iterate 2 refine wl_pure Tryz.hT rfl rfl rfl ?_
      refine wl_nil ?_
      exact ne_loop 2 (by decide) (by decide) ⟨rfl, rfl, rfl, rfl, rfl, rfl, trivial⟩ [_] (by rw [show b.supT x 2 = b.supT x 1 + b.right * (x - b.r) by show (if b.l < x then b.left * (x - b.l) else 0) + (if b.r < x then b.right * (x - b.r) else 0) = _; rw [if_pos hle]; rfl]; rfl)
    · have hle : ¬ b.r < x := of_decide_eq_false h
      refine zI ?_
      refine zN ?_
      refine zE ?_
      refine zB ?_
      iterate 2 refine wl_pure Tryz.hT rfl rfl rfl ?_
      refine wl_nil ?_
      exact ne_loop 2 (by decide) (by decide) ⟨rfl, rfl, rfl, rfl, rfl, rfl, trivial⟩ [_] (by rw [show b.supT x 2 = b.supT x 1 by show (if b.l < x then b.left * (x - b.l) else 0) + (if b.r < x then b.right * (x - b.r) else 0) = _; rw [if_neg hle, Rat.add_zero]; rfl]; rfl)
  refine zA ?_
  refine zB ?_
  refine wl_pure Tryz.hT rfl rfl rfl ?_
  refine wl_nil ?_
  refine zE ?_
  refine zA ?_
  refine zS rfl ?_
  refine zJ ?_
  iterate 2 refine zK ?_
  refine zL ?_
  refine zE ?_
  refine zA ?_
  refine zB ?_
  refine wl_loadBx 0 Tryz.hT rfl rfl rfl rfl rfl rfl rfl rfl ?_
  refine wl_loadBx 1 Tryz.hT rfl rfl rfl rfl rfl rfl rfl rfl ?_
  refine wl_pure Tryz.hT rfl rfl rfl ?_
  refine wl_callN (X := Unit) (val := fun _ => .tuple #[]) (Φ := fun _ => True) (capt := []) 2 (B := sumB b5 (b.supM x)) (L1 := []) (L2 := []) (b := b5) (ob := sumO (b.supM x)) (fun _ => sumB b5 (b.moment x)) (g' := fun _ => b5) (o' := fun _ => sumO (b.moment x))
    rfl rfl rfl rfl rfl rfl (by kernel_rfl) rfl rfl (fun _ _ => rfl) (fun W1 hp => ?_) (fun _ _ => ?_)
  · have hcell := hp.own.cell 2 _ rfl (b5, sumO (b.supM x)) (List.mem_cons_self ..)
    have hne : b3 ≠ b5 := hp.own.apart 1 2 _ _ rfl rfl (by decide) (b3, .cells [str (numS x)].toArray 27 (0, 0)) (List.mem_cons_self ..) (b5, sumO (b.supM x)) (List.mem_cons_self ..)
    have hrow : RowAt W1 b3 0 [str (numS x)] := RowAt.of_bx hp 1 rfl rfl
    have h1 := fold_gives (each_moment b5 b3 x) b x p q m n (b.supM x) W1 hcell.1 (fun W2 hk => ⟨⟨RowAt.keep hrow hne hk, (hM.keep hp hk hcell.2).v, (hM.keep hp hk hcell.2).t⟩, hM.keep hp hk hcell.2⟩) hz.z hz.rc.lf hz.rc.ls hz.t
    rw [show accQ (tM x) (b.supM x) (b.pts x) = b.moment x from (moment_acc b x).symm] at h1
    exact h1
  refine wl_nil ?_
  refine zE ?_
  refine zA ?_
  refine zB ?_
  refine wl_loadBx 2 Tryz.hT rfl rfl rfl rfl rfl rfl rfl rfl ?_
  refine wl_pure Tryz.hT rfl rfl rfl ?_
  refine wl_nil ?_
  refine zE ?_
  refine zO ?_
  exact ne_ret1 Tryz.hT rfl (.tmp rfl) () rfl trivial fun W _ => NewBx.nil _ _
end Go.Proofs.YtddadjbflgdomaaGreatDoor
namespace Go.Proofs.YtddadjbflgdomaaGreatDoor
open Go Go.RowKit Go.Am Go.Lib
set_option maxRecDepth 10000
-- BOXES 4
theorem bdigits_gives (z : Int) : Gives Tryz.prog 77 [str (itoa z)] (.int .i64 ((decDigits z.natAbs).length : Nat)) := by
  intro W
  refine calls_enter Tryz.func77 rfl rfl rfl ?_
  refine zA ?_
  refine zB ?_
  refine wl_pure Tryz.hT rfl rfl rfl ?_
  refine wl_nil ?_
  refine zE ?_
  refine zA ?_
  refine zB ?_
  refine wl_pure Tryz.hT rfl rfl rfl ?_
  refine wl_call1 rfl rfl rfl rfl rfl rfl (by kernel_rfl) (fun W _ => (trimPrefix_gives (itoa z) [45] W).cast (by rw [trimPrefix_itoa])) ?_
  refine wl_pure Tryz.hT rfl rfl rfl ?_
  refine wl_upd 5 (.int .i64 ((decDigits z.natAbs).length : Nat)) rfl (congrArg (fun n : Nat => Value.int .i64 (n : Int)) (str_size _)) ?_
  refine wl_pure Tryz.hT rfl rfl rfl ?_
  refine wl_nil ?_
  refine zE ?_
  refine zO ?_
  exact ne_ret1 Tryz.hT rfl (.tmp rfl) () rfl trivial fun W _ => NewBx.nil _ _
section
variable {r : Option Nat} {n : Nat} {P : Program} {N : Nat} {D : List Deferred} {ops : List Oper} {Q : Exit → Act → World → Prop} {o : Oper} {rest : List Oper} {env : Env} {A : World → Prop}
theorem wl_strGtr {d : Nat} {t u : TypeId} {x y : Operand} {a b : List UInt8} (hg : guardE ops N env o = some true) (hd : o.dst = some d) (ho : o.op = .binOp .gtr t x y u) (hx : evO N env x = some (str a)) (hy : evO N env y = some (str b))
    (h : WL r n P N D ops Q rest ((d, .bool (!(Op.bytesLess a b || decide (a = b)))) :: env) A) : WL r n P N D ops Q (o :: rest) env A :=
  wl_val hg hd (fun c e => by rw [ho] at e; cases e) (fun ρ W hρ _ => by
    have e := strEqB a b
    rw [bytes_list, bytes_list] at e
    simp [execOp, ho, hρ _ _ hx, hρ _ _ hy, eqGuard, binOp, Op.stringOp, ByteArray.toList_mk, ← e]) h
end
theorem den_len {n : Nat} (h : n ≤ 12) : (decDigits n).length = if n < 10 then 1 else 2 := by
  by_cases h1 : n < 10
  · rw [if_pos h1, dd1 n h1]; rfl
  · rw [if_neg h1, dd2 n h1 (by omega)]; rfl
set_option maxHeartbeats 8000000 in
theorem bnumber_gives (q : Rat) (h : BnQ q) (W : World) (hv : MaxP W) (ht : TabP W) :
    CallsR Tryz.prog 101 #[str (numS q)] W (fun _ : Unit => .int .i64 0) (fun _ => True) (fun _ => []) := by
  have hk := h.sz.ok (by decide)
  have hl := numS_len hk
  have l1 := dd_len 12 q.num.natAbs (by decide) h.n
  have l2 := den_len h.d
  have hd := h.d
  refine calls_enter (args := [str (numS q)]) Tryz.func101 rfl rfl rfl ?_
  refine zA ?_
  refine zB ?_
  refine wl_pure Tryz.hT rfl rfl rfl ?_
  refine wl_nil ?_
  refine zE ?_
  iterate 2 refine zA ?_
  refine zB ?_
  refine wl_pure Tryz.hT rfl rfl rfl ?_
  refine wl_call1 rfl rfl rfl rfl rfl rfl (by kernel_rfl) (fun W hp => (rcheck_gives (numS q) (by omega) W (hv.hp hp) (ht.hp hp)).cast (by rw [rd_okQ hk])) ?_
  refine wl_pure Tryz.hT rfl rfl rfl ?_
  refine wl_nil ?_
  refine zE ?_
  refine zA ?_
  refine zB ?_
  iterate 2 refine wl_pure Tryz.hT rfl rfl rfl ?_
  refine wl_nil ?_
  refine zE ?_
  refine zS rfl ?_
  refine zI ?_
  refine zE ?_
  refine zA ?_
  refine zB ?_
  refine wl_pure Tryz.hT rfl rfl rfl ?_
  refine wl_call1 rfl rfl rfl rfl rfl rfl (by kernel_rfl) (fun W hp => rparts_gives q hk W (hv.hp hp) (ht.hp hp)) ?_
  iterate 7 refine wl_pure Tryz.hT rfl rfl rfl ?_
  refine wl_nil ?_
  refine ne_then ?_
  try refine wc_seq ?_
  refine wc_cutS (X := Unit) (fun _ => [(2, .int .i64 0), (34, .bool false)]) (fun _ => []) (fun _ => True) ?_ ?_
  · refine zA ?_
    refine zB ?_
    refine wl_pure Tryz.hT rfl rfl rfl ?_
    refine wl_call1 rfl rfl rfl rfl rfl rfl (by kernel_rfl) (fun W _ => bdigits_gives q.num W) ?_
    refine wl_pure Tryz.hT rfl rfl rfl ?_
    refine wl_upd 20 (.bool false) rfl (congrArg Value.bool (decide_eq_false (by omega))) ?_
    iterate 2 refine wl_pure Tryz.hT rfl rfl rfl ?_
    refine wl_call1 rfl rfl rfl rfl rfl rfl (by kernel_rfl) (fun W _ => bdigits_gives (q.den : Nat) W) ?_
    refine wl_pure Tryz.hT rfl rfl rfl ?_
    refine wl_upd 24 (.bool false) rfl (congrArg Value.bool (decide_eq_false (by
      rw [Int.natAbs_natCast, l2]
      split <;> omega))) ?_
    iterate 4 refine wl_pure Tryz.hT rfl rfl rfl ?_
    refine wl_upd 28 (.int .i64 ((decDigits q.den).length : Nat)) rfl (congrArg (fun n : Nat => Value.int .i64 (n : Int)) ((str_size _).trans (by rw [it_pos]))) ?_
    refine wl_pure Tryz.hT rfl rfl rfl ?_
    by_cases h1 : q.den < 10
    · refine wl_upd 29 (.bool false) rfl (congrArg Value.bool (decide_eq_false (by rw [l2, if_pos h1]; decide))) ?_
      refine wl_pure Tryz.hT rfl rfl rfl ?_
      iterate 2 refine wl_skip rfl rfl ?_
      iterate 2 refine wl_pure Tryz.hT rfl rfl rfl ?_
      refine wl_nil ?_
      refine zE ?_
      refine zS rfl ?_
      refine zI ?_
      exact ne_cut () trivial ⟨rfl, rfl, trivial⟩ [] rfl
    · refine wl_upd 29 (.bool true) rfl (congrArg Value.bool (decide_eq_true (by rw [l2, if_neg h1]; rfl))) ?_
      iterate 2 refine wl_pure Tryz.hT rfl rfl rfl ?_
      have e : itoa ((q.den : Nat) : Int) = [49, UInt8.ofNat (48 + q.den % 10)] := by
        rw [it_pos, dd2 q.den h1 (by omega), show q.den / 10 = 1 by omega]; rfl
      refine wl_upd 31 (str [49, UInt8.ofNat (48 + q.den % 10)]) rfl (by rw [e]) ?_
      refine wl_strGtr rfl rfl rfl rfl rfl ?_
      refine wl_upd 32 (.bool false) rfl (by
        rcases (show q.den % 10 = 0 ∨ q.den % 10 = 1 ∨ q.den % 10 = 2 by omega) with e | e | e <;> rw [e] <;> rfl) ?_
      iterate 2 refine wl_pure Tryz.hT rfl rfl rfl ?_
      refine wl_nil ?_
      refine zE ?_
      refine zS rfl ?_
      refine zI ?_
      exact ne_cut () trivial ⟨rfl, rfl, trivial⟩ [] rfl
  · intro _ _
    refine zA ?_
    refine zB ?_
    refine wl_pure Tryz.hT rfl rfl rfl ?_
    refine wl_nil ?_
    refine zE ?_
    refine zO ?_
    exact ne_ret1 Tryz.hT rfl (.tmp rfl) () rfl trivial fun W _ => NewBx.nil _ _
set_option maxHeartbeats 4000000 in
theorem bnumbers_gives (l : List Rat) (p : Option Addr) (cap : Nat) (hn : l.length ≤ 4096) (hk : ∀ q ∈ l, BnQ q) (W : World) (hS : StrsP W p (l.map numS)) (hv : MaxP W) (ht : TabP W) :
    CallsR Tryz.prog 63 #[slv p l.length cap] W (fun _ : Unit => .int .i64 0) (fun _ => True) (fun _ => []) := by
  refine calls_enter (args := [slv p l.length cap]) Tryz.func63 rfl rfl rfl ?_
  refine zA ?_
  refine zB ?_
  refine wl_pure Tryz.hT rfl rfl rfl ?_
  refine wl_nil ?_
  refine zE ?_
  iterate 2 refine zA ?_
  refine zB ?_
  iterate 3 refine wl_pure Tryz.hT rfl rfl rfl ?_
  refine wl_nil ?_
  refine zE ?_
  refine zH ?_
  refine wc_loop (X := Nat) (fun i => [(2, .int .i64 0), (6, slv p l.length cap), (7, .int .i64 (l.length : Nat)), (8, .int .i64 (i : Nat))]) (fun _ => []) (fun i => i ≤ l.length) (fun i => l.length - i) 0 (Nat.zero_le _) ⟨rfl, rfl, rfl, rfl, trivial⟩ [] rfl ?_
  intro i hi
  have hi : i ≤ l.length := hi
  refine zA ?_
  refine zB ?_
  refine wl_pure Tryz.hT rfl rfl rfl ?_
  by_cases hlt : i < l.length
  · refine wl_upd 9 (.bool true) rfl (congrArg Value.bool (decide_eq_true (by omega))) ?_
    refine wl_nil ?_
    refine zE ?_
    refine zA ?_
    refine zR rfl ?_
    refine zI ?_
    refine zE ?_
    refine zA ?_
    refine zH ?_
    refine zA ?_
    refine zB ?_
    obtain ⟨g, off, rfl, hrow⟩ := hS.row (i := i) (by rw [List.length_map]; exact hlt)
    have hrow1 : RowAt W g (off + i * 1) [str (numS l[i])] := by have := hrow i (by rw [List.length_map]; exact hlt); rwa [List.getElem_map] at this
    refine wl_indexAddr Tryz.hT rfl rfl rfl rfl rfl rfl rfl (by omega) (by omega) ?_
    refine wl_load rfl rfl rfl rfl (fun W hp => RowAt.load 0 Tryz.hT rfl ((fun W hp => hrow1.hp hp) W hp) rfl) ?_
    refine wl_pure Tryz.hT rfl rfl rfl ?_
    refine wl_nil ?_
    refine zE ?_
    refine zA ?_
    refine zB ?_
    refine wl_pure Tryz.hT rfl rfl rfl ?_
    refine wl_call1 rfl rfl rfl rfl rfl rfl (by kernel_rfl) (fun W hp => bnumber_gives l[i] (hk l[i] (List.getElem_mem hlt)) W (hv.hp hp) (ht.hp hp)) ?_
    refine wl_pure Tryz.hT rfl rfl rfl ?_
    refine wl_nil ?_
    refine zE ?_
    refine zA ?_
    refine zB ?_
    iterate 2 refine wl_pure Tryz.hT rfl rfl rfl ?_
    refine wl_nil ?_
    refine zE ?_
    refine zS rfl ?_
    refine zI ?_
    refine zN ?_
    refine zE ?_
    refine zB ?_
    refine wl_pure Tryz.hT rfl rfl rfl ?_
    refine wl_upd 17 (.int .i64 ((i + 1 : Nat) : Int)) rfl (congrArg (Value.int .i64) (w64_succ (by omega))) ?_
    refine wl_pure Tryz.hT rfl rfl rfl ?_
    refine wl_nil ?_
    exact ne_loop (i + 1) hlt (by show l.length - (i + 1) < l.length - i; omega) ⟨rfl, rfl, rfl, rfl, trivial⟩ [] rfl
  · refine wl_upd 9 (.bool false) rfl (congrArg Value.bool (decide_eq_false (by omega))) ?_
    refine wl_nil ?_
    refine zE ?_
    refine zA ?_
    refine zS rfl ?_
    refine zJ ?_
    iterate 2 refine zK ?_
    refine zL ?_
    refine zE ?_
    refine zA ?_
    refine zB ?_
    refine wl_pure Tryz.hT rfl rfl rfl ?_
    refine wl_nil ?_
    refine zE ?_
    refine zO ?_
    exact ne_ret1 Tryz.hT rfl (.tmp rfl) () rfl trivial fun W _ => NewBx.nil _ _
theorem bcompare0_gives (p : Rat) (h : Sz2 p 0) (W : World) (hv : MaxP W) (ht : TabP W) : CallsR Tryz.prog 35 #[str (numS p), str [48]] W (fun _ : Unit => .int .i64 (cmpQ p 0)) (fun _ => True) (fun _ => []) := by
  have := bcompare_gives p 0 h W hv ht
  rwa [numS_zero] at this
set_option maxHeartbeats 4000000 in
theorem boutside_gives (b : BmP) (p q : Option Addr) (m n : Nat) (x : Rat) (h0 : 0 ≤ x) (h1 : x ≤ b.len) (z0 : Sz2 x 0) (z1 : Sz2 x b.len) (W : World) (hv : MaxP W) (ht : TabP W) :
    CallsR Tryz.prog 64 #[bmV b p m q n, str (numS x)] W (fun _ : Unit => .bool false) (fun _ => True) (fun _ => []) := by
  refine calls_enter (args := [bmV b p m q n, str (numS x)]) Tryz.func64 rfl rfl rfl ?_
  refine zA ?_
  refine zB ?_
  (refine wl_box rfl rfl rfl rfl ?_; intro)
  refine wl_pure Tryz.hT rfl rfl rfl ?_
  refine wl_nil ?_
  refine zE ?_
  refine zA ?_
  refine zB ?_
  refine wl_pure Tryz.hT rfl rfl rfl ?_
  refine wl_call1 rfl rfl rfl rfl rfl rfl (by kernel_rfl) (fun W hp => bcompare0_gives x z0 W (hv.hp hp) (ht.hp hp)) ?_
  refine wl_pure Tryz.hT rfl rfl rfl ?_
  refine wl_upd 7 (.bool false) rfl (congrArg Value.bool ((cmpQ_lt0 x 0).trans (decide_eq_false (Rat.not_lt.2 h0)))) ?_
  iterate 3 refine wl_pure Tryz.hT rfl rfl rfl ?_
  refine wl_loadBx 0 Tryz.hT rfl rfl rfl rfl rfl rfl rfl rfl ?_
  refine wl_call1 rfl rfl rfl rfl rfl rfl (by kernel_rfl) (fun W hp => bcompare_gives x b.len z1 W (hv.hp hp) (ht.hp hp)) ?_
  refine wl_pure Tryz.hT rfl rfl rfl ?_
  refine wl_upd 13 (.bool false) rfl (congrArg Value.bool ((cmpQ_gt0 x b.len).trans (decide_eq_false (Rat.not_lt.2 h1)))) ?_
  iterate 2 refine wl_pure Tryz.hT rfl rfl rfl ?_
  refine wl_nil ?_
  refine zE ?_
  refine zO ?_
  exact ne_ret1 Tryz.hT rfl (.tmp rfl) () rfl trivial fun W _ => NewBx.nil _ _
theorem strs3 {W : World} {b : Nat} (x y z : Rat) (h : RowAt W b 0 [str (numS x), str (numS y), str (numS z)]) : StrsP W (some ⟨b, 0, none⟩) ([x, y, z].map numS) := .inr ⟨b, 0, rfl, h⟩
theorem strs2 {W : World} {b : Nat} (x y : Rat) (h : RowAt W b 0 [str (numS x), str (numS y)]) : StrsP W (some ⟨b, 0, none⟩) ([x, y].map numS) := .inr ⟨b, 0, rfl, h⟩
theorem bn3 {x y z : Rat} (hx : BnQ x) (hy : BnQ y) (hz : BnQ z) : ∀ q ∈ [x, y, z], BnQ q := fun q hq => by
  rcases List.mem_cons.1 hq with rfl | hq
  · exact hx
  · rcases List.mem_cons.1 hq with rfl | hq
    · exact hy
    · obtain rfl := List.mem_singleton.1 hq; exact hz
theorem bn2 {x y : Rat} (hx : BnQ x) (hy : BnQ y) : ∀ q ∈ [x, y], BnQ q := fun q hq => by
  rcases List.mem_cons.1 hq with rfl | hq
  · exact hx
  · obtain rfl := List.mem_singleton.1 hq; exact hy
set_option maxHeartbeats 4000000 in
theorem bframe_gives (b : BmP) (h : BmC b) (p q : Option Addr) (m n : Nat) (W : World) (hv : MaxP W) (ht : TabP W) :
    CallsR Tryz.prog 62 #[bmV b p m q n] W (fun _ : Unit => .int .i64 0) (fun _ => True) (fun _ => []) := by
  have hL := h.lies
  have lr := Rat.le_of_lt hL.lr
  refine calls_enter (args := [bmV b p m q n]) Tryz.func62 rfl rfl rfl ?_
  refine zA ?_
  refine zB ?_
  (refine wl_box rfl rfl rfl rfl ?_; intro)
  refine wl_pure Tryz.hT rfl rfl rfl ?_
  refine wl_nil ?_
  rename_i b1
  refine zE ?_
  iterate 2 refine zA ?_
  refine zB ?_
  refine wl_pure Tryz.hT rfl rfl rfl ?_
  refine wl_loadBx 0 Tryz.hT rfl rfl rfl rfl rfl rfl rfl rfl ?_
  refine wl_pure Tryz.hT rfl rfl rfl ?_
  refine wl_loadBx 0 Tryz.hT rfl rfl rfl rfl rfl rfl rfl rfl ?_
  refine wl_pure Tryz.hT rfl rfl rfl ?_
  refine wl_loadBx 0 Tryz.hT rfl rfl rfl rfl rfl rfl rfl rfl ?_
  refine wl_buildRowZ Tryz.hZ Tryz.hT rfl rfl rfl rfl rfl rfl rfl rfl rfl rfl rfl fun bS => ?_
  refine wl_call1 rfl rfl rfl rfl rfl rfl (by kernel_rfl) (fun W hp => bnumbers_gives [b.len, b.l, b.r] (some ⟨bS, 0, none⟩) 3 (show 3 ≤ 4096 by decide) (bn3 h.len h.l h.r) W (strs3 _ _ _ (RowAt.of_bx hp 1 rfl rfl)) (hv.hp hp) (ht.hp hp)) ?_
  refine wl_pure Tryz.hT rfl rfl rfl ?_
  refine wl_nil ?_
  refine zE ?_
  refine zA ?_
  refine zB ?_
  iterate 2 refine wl_pure Tryz.hT rfl rfl rfl ?_
  refine wl_nil ?_
  refine zE ?_
  refine zS rfl ?_
  refine zI ?_
  refine zE ?_
  refine zA ?_
  refine zH ?_
  refine zA ?_
  refine zB ?_
  refine wl_pure Tryz.hT rfl rfl rfl ?_
  refine wl_loadBx 0 Tryz.hT rfl rfl rfl rfl rfl rfl rfl rfl ?_
  refine wl_call1 rfl rfl rfl rfl rfl rfl (by kernel_rfl) (fun W hp => bcompare0_gives b.len (h.len.z2 bn0) W (hv.hp hp) (ht.hp hp)) ?_
  refine wl_pure Tryz.hT rfl rfl rfl ?_
  refine wl_upd 19 (.bool false) rfl (congrArg Value.bool ((cmpQ_le0 b.len 0).trans (decide_eq_false (Rat.not_le.2 hL.len)))) ?_
  refine wl_pure Tryz.hT rfl rfl rfl ?_
  refine wl_nil ?_
  refine zE ?_
  refine zS rfl ?_
  refine zA ?_
  refine zB ?_
  refine wl_loadBx 0 Tryz.hT rfl rfl rfl rfl rfl rfl rfl rfl ?_
  refine wl_pure Tryz.hT rfl rfl rfl ?_
  refine wl_loadBx 0 Tryz.hT rfl rfl rfl rfl rfl rfl rfl rfl ?_
  refine wl_call1 rfl rfl rfl rfl rfl rfl (by kernel_rfl) (fun W hp => boutside_gives b p q m n b.l hL.l0 (Rat.le_trans lr hL.r1) (h.l.z2 bn0) (h.l.z2 h.len) W (hv.hp hp) (ht.hp hp)) ?_
  refine wl_pure Tryz.hT rfl rfl rfl ?_
  refine wl_loadBx 0 Tryz.hT rfl rfl rfl rfl rfl rfl rfl rfl ?_
  refine wl_pure Tryz.hT rfl rfl rfl ?_
  refine wl_loadBx 0 Tryz.hT rfl rfl rfl rfl rfl rfl rfl rfl ?_
  refine wl_call1 rfl rfl rfl rfl rfl rfl (by kernel_rfl) (fun W hp => boutside_gives b p q m n b.r (Rat.le_trans hL.l0 lr) hL.r1 (h.r.z2 bn0) (h.r.z2 h.len) W (hv.hp hp) (ht.hp hp)) ?_
  iterate 2 refine wl_pure Tryz.hT rfl rfl rfl ?_
  refine wl_nil ?_
  refine zE ?_
  refine zS rfl ?_
  refine zA ?_
  refine zB ?_
  refine wl_pure Tryz.hT rfl rfl rfl ?_
  refine wl_loadBx 0 Tryz.hT rfl rfl rfl rfl rfl rfl rfl rfl ?_
  refine wl_pure Tryz.hT rfl rfl rfl ?_
  refine wl_loadBx 0 Tryz.hT rfl rfl rfl rfl rfl rfl rfl rfl ?_
  refine wl_call1 rfl rfl rfl rfl rfl rfl (by kernel_rfl) (fun W hp => bcompare_gives b.l b.r (h.l.z2 h.r) W (hv.hp hp) (ht.hp hp)) ?_
  refine wl_pure Tryz.hT rfl rfl rfl ?_
  refine wl_upd 37 (.bool false) rfl (congrArg Value.bool ((cmpQ_ge0 b.l b.r).trans (decide_eq_false (Rat.not_le.2 hL.lr)))) ?_
  refine wl_pure Tryz.hT rfl rfl rfl ?_
  refine wl_nil ?_
  refine zE ?_
  refine zS rfl ?_
  refine zI ?_
  refine zN ?_
  refine zE ?_
  refine zA ?_
  refine zB ?_
  refine wl_pure Tryz.hT rfl rfl rfl ?_
  refine wl_nil ?_
  refine zE ?_
  refine zO ?_
  exact ne_ret1 Tryz.hT rfl (.tmp rfl) () rfl trivial fun W _ => NewBx.nil _ _
end Go.Proofs.YtddadjbflgdomaaGreatDoor
namespace Go.Proofs.YtddadjbflgdomaaGreatDoor
open Go Go.RowKit Go.Am Go.Lib
set_option maxRecDepth 10000
-- BOXES 4
theorem FosP.at_ {W : World} {p : Option Addr} {l : List (Rat × Rat)} (h : FosP W p l) {i : Nat} (hi : i < l.length) : ∃ g off, p = some ⟨g, off, none⟩ ∧ ∀ k (hk : k < l.length), RowAt W g (off + k * 2) [str (numS l[k].1), str (numS l[k].2)] := by
  rcases h with h | ⟨g, off, e, h⟩
  · rw [h] at hi; exact absurd hi (Nat.not_lt_zero _)
  · exact ⟨g, off, e, h⟩
theorem SpsP.at_ {W : World} {p : Option Addr} {l : List (Rat × Rat × Rat)} (h : SpsP W p l) {i : Nat} (hi : i < l.length) : ∃ g off, p = some ⟨g, off, none⟩ ∧ ∀ k (hk : k < l.length), RowAt W g (off + k * 3) [str (numS l[k].1), str (numS l[k].2.1), str (numS l[k].2.2)] := by
  rcases h with h | ⟨g, off, e, h⟩
  · rw [h] at hi; exact absurd hi (Nat.not_lt_zero _)
  · exact ⟨g, off, e, h⟩
set_option maxHeartbeats 16000000 in
theorem bcheck_gives (b : BmP) (h : BmC b) (p q : Option Addr) (m n : Nat) (W : World) (hM : BmM W b p q) :
    CallsR Tryz.prog 31 #[bmV b p m q n] W (fun _ : Unit => .int .i64 0) (fun _ => True) (fun _ => []) := by
  have hL := h.lies
  have hlf := h.lf
  have hls := h.ls
  have hv := hM.v
  have ht := hM.t
  refine calls_enter (args := [bmV b p m q n]) Tryz.func31 rfl rfl rfl ?_
  refine zA ?_
  refine zB ?_
  (refine wl_box rfl rfl rfl rfl ?_; intro)
  refine wl_pure Tryz.hT rfl rfl rfl ?_
  refine wl_nil ?_
  rename_i b1
  refine zE ?_
  iterate 2 refine zA ?_
  refine zB ?_
  refine wl_pure Tryz.hT rfl rfl rfl ?_
  refine wl_loadBx 0 Tryz.hT rfl rfl rfl rfl rfl rfl rfl rfl ?_
  iterate 2 refine wl_pure Tryz.hT rfl rfl rfl ?_
  refine wl_upd 13 (.bool false) rfl (congrArg Value.bool (decide_eq_false (by omega))) ?_
  iterate 2 refine wl_pure Tryz.hT rfl rfl rfl ?_
  refine wl_loadBx 0 Tryz.hT rfl rfl rfl rfl rfl rfl rfl rfl ?_
  iterate 2 refine wl_pure Tryz.hT rfl rfl rfl ?_
  refine wl_upd 18 (.bool false) rfl (congrArg Value.bool (decide_eq_false (by omega))) ?_
  refine wl_pure Tryz.hT rfl rfl rfl ?_
  refine wl_nil ?_
  refine zE ?_
  refine zS rfl ?_
  refine zI ?_
  refine zE ?_
  iterate 2 refine zA ?_
  refine zB ?_
  refine wl_loadBx 0 Tryz.hT rfl rfl rfl rfl rfl rfl rfl rfl ?_
  refine wl_call1 rfl rfl rfl rfl rfl rfl (by kernel_rfl) (fun W hp => bframe_gives b h p q m n W (hv.hp hp) (ht.hp hp)) ?_
  refine wl_pure Tryz.hT rfl rfl rfl ?_
  refine wl_nil ?_
  refine zE ?_
  refine zA ?_
  refine zB ?_
  iterate 2 refine wl_pure Tryz.hT rfl rfl rfl ?_
  refine wl_nil ?_
  refine zE ?_
  refine zS rfl ?_
  refine zI ?_
  refine zE ?_
  iterate 2 refine zA ?_
  refine zB ?_
  refine wl_pure Tryz.hT rfl rfl rfl ?_
  refine wl_loadBx 0 Tryz.hT rfl rfl rfl rfl rfl rfl rfl rfl ?_
  iterate 2 refine wl_pure Tryz.hT rfl rfl rfl ?_
  refine wl_nil ?_
  refine zE ?_
  refine zH ?_
  refine wc_loop (X := Nat) (fun i => [(1, selfP b1), (2, .int .i64 0), (26, .slice p b.fs.length m), (27, .int .i64 (b.fs.length : Nat)), (28, .int .i64 (i : Nat))]) (fun _ => [bmB b1 b p m q n]) (fun i => i ≤ b.fs.length) (fun i => b.fs.length - i) 0 (Nat.zero_le _) ⟨rfl, rfl, rfl, rfl, rfl, trivial⟩ [] rfl ?_
  intro i hi
  have hi : i ≤ b.fs.length := hi
  refine zA ?_
  refine zB ?_
  refine wl_pure Tryz.hT rfl rfl rfl ?_
  by_cases hlt : i < b.fs.length
  · refine wl_upd 29 (.bool true) rfl (congrArg Value.bool (decide_eq_true (by omega))) ?_
    refine wl_nil ?_
    refine zE ?_
    refine zA ?_
    refine zR rfl ?_
    refine zI ?_
    refine zE ?_
    refine zA ?_
    refine zH ?_
    refine zA ?_
    refine zB ?_
    obtain ⟨f, hfe⟩ : ∃ f, f = b.fs[i] := ⟨_, rfl⟩
    have hfm : f ∈ b.fs := hfe ▸ List.getElem_mem hlt
    obtain ⟨n1, n2⟩ := h.f f hfm
    obtain ⟨g, off, hpe, hrow⟩ := hM.f.at_ hlt
    have hrow := hrow i hlt
    rw [← hfe] at hrow
    subst hpe
    refine wl_indexAddr Tryz.hT rfl rfl rfl rfl rfl rfl rfl (by omega) (by omega) ?_
    refine wl_load rfl rfl rfl rfl (fun W hp => RowAt.load 0 Tryz.hT rfl ((fun W1 hp => hrow.hp hp) W hp) rfl) ?_
    (refine wl_allocZ Tryz.hZ rfl rfl rfl rfl ?_; intro)
    refine wl_storeBx 1 Tryz.hT rfl rfl rfl rfl rfl rfl rfl rfl rfl rfl rfl ?_
    refine wl_nil ?_
    refine zE ?_
    iterate 2 refine zA ?_
    refine zB ?_
    refine wl_pure Tryz.hT rfl rfl rfl ?_
    refine wl_loadBx 1 Tryz.hT rfl rfl rfl rfl rfl rfl rfl rfl ?_
    refine wl_pure Tryz.hT rfl rfl rfl ?_
    refine wl_loadBx 1 Tryz.hT rfl rfl rfl rfl rfl rfl rfl rfl ?_
    refine wl_buildRowZ Tryz.hZ Tryz.hT rfl rfl rfl rfl rfl rfl rfl rfl rfl rfl rfl fun bS => ?_
    refine wl_call1 rfl rfl rfl rfl rfl rfl (by kernel_rfl) (fun W hp => bnumbers_gives [f.1, f.2] (some ⟨bS, 0, none⟩) 2 (show 2 ≤ 4096 by decide) (bn2 n1 n2) W (strs2 _ _ (RowAt.of_bx hp 2 rfl rfl)) (hv.hp hp) (ht.hp hp)) ?_
    refine wl_pure Tryz.hT rfl rfl rfl ?_
    refine wl_nil ?_
    refine zE ?_
    refine zA ?_
    refine zB ?_
    iterate 2 refine wl_pure Tryz.hT rfl rfl rfl ?_
    refine wl_nil ?_
    refine zE ?_
    refine zS rfl ?_
    refine zI ?_
    refine zE ?_
    refine zA ?_
    refine zB ?_
    refine wl_loadBx 0 Tryz.hT rfl rfl rfl rfl rfl rfl rfl rfl ?_
    refine wl_pure Tryz.hT rfl rfl rfl ?_
    refine wl_loadBx 1 Tryz.hT rfl rfl rfl rfl rfl rfl rfl rfl ?_
    refine wl_call1 rfl rfl rfl rfl rfl rfl (by kernel_rfl) (fun W hp => boutside_gives b (some ⟨g, off, none⟩) q m n f.1 (hL.f0 f hfm) (hL.f1 f hfm) (n1.z2 bn0) (n1.z2 h.len) W (hv.hp hp) (ht.hp hp)) ?_
    refine wl_nil ?_
    refine zE ?_
    refine zS rfl ?_
    refine zI ?_
    refine zN ?_
    refine zE ?_
    refine zB ?_
    refine wl_pure Tryz.hT rfl rfl rfl ?_
    refine wl_upd 45 (.int .i64 ((i + 1 : Nat) : Int)) rfl (congrArg (Value.int .i64) (w64_succ (by omega))) ?_
    refine wl_pure Tryz.hT rfl rfl rfl ?_
    refine wl_nil ?_
    exact ne_loop (i + 1) hlt (by show b.fs.length - (i + 1) < b.fs.length - i; omega) ⟨rfl, rfl, rfl, rfl, rfl, trivial⟩ [_, _] rfl
  refine wl_upd 29 (.bool false) rfl (congrArg Value.bool (decide_eq_false (by omega))) ?_
  refine wl_nil ?_
  refine zE ?_
  refine zA ?_
  refine zS rfl ?_
  refine zJ ?_
  iterate 2 refine zK ?_
  refine zL ?_
  refine zE ?_
  iterate 2 refine zA ?_
  refine zB ?_
  refine wl_pure Tryz.hT rfl rfl rfl ?_
  refine wl_loadBx 0 Tryz.hT rfl rfl rfl rfl rfl rfl rfl rfl ?_
  iterate 2 refine wl_pure Tryz.hT rfl rfl rfl ?_
  refine wl_nil ?_
  refine zE ?_
  refine zH ?_
  refine wc_loop (X := Nat) (fun i => [(1, selfP b1), (2, .int .i64 0), (47, .slice q b.ss.length n), (48, .int .i64 (b.ss.length : Nat)), (49, .int .i64 (i : Nat))]) (fun _ => [bmB b1 b p m q n]) (fun i => i ≤ b.ss.length) (fun i => b.ss.length - i) 0 (Nat.zero_le _) ⟨rfl, rfl, rfl, rfl, rfl, trivial⟩ [] rfl ?_
  intro i hi
  have hi : i ≤ b.ss.length := hi
  refine zA ?_
  refine zB ?_
  refine wl_pure Tryz.hT rfl rfl rfl ?_
  by_cases hlt : i < b.ss.length
  · refine wl_upd 50 (.bool true) rfl (congrArg Value.bool (decide_eq_true (by omega))) ?_
    refine wl_nil ?_
    refine zE ?_
    refine zA ?_
    refine zR rfl ?_
    refine zI ?_
    refine zE ?_
    refine zA ?_
    refine zH ?_
    refine zA ?_
    refine zB ?_
    obtain ⟨f, hfe⟩ : ∃ f, f = b.ss[i] := ⟨_, rfl⟩
    have hfm : f ∈ b.ss := hfe ▸ List.getElem_mem hlt
    obtain ⟨n1, n2, n3⟩ := h.s f hfm
    have s0 := hL.s0 f hfm
    have s1 := hL.s1 f hfm
    have s2 := hL.s2 f hfm
    have s1' := Rat.le_of_lt s1
    obtain ⟨g, off, hpe, hrow⟩ := hM.s.at_ hlt
    have hrow := hrow i hlt
    rw [← hfe] at hrow
    subst hpe
    refine wl_indexAddr Tryz.hT rfl rfl rfl rfl rfl rfl rfl (by omega) (by omega) ?_
    refine wl_load rfl rfl rfl rfl (fun W hp => RowAt.load 0 Tryz.hT rfl ((fun W1 hp => hrow.hp hp) W hp) rfl) ?_
    (refine wl_allocZ Tryz.hZ rfl rfl rfl rfl ?_; intro)
    refine wl_storeBx 1 Tryz.hT rfl rfl rfl rfl rfl rfl rfl rfl rfl rfl rfl ?_
    refine wl_nil ?_
    refine zE ?_
    iterate 2 refine zA ?_
    refine zB ?_
    refine wl_pure Tryz.hT rfl rfl rfl ?_
    refine wl_loadBx 1 Tryz.hT rfl rfl rfl rfl rfl rfl rfl rfl ?_
    refine wl_pure Tryz.hT rfl rfl rfl ?_
    refine wl_loadBx 1 Tryz.hT rfl rfl rfl rfl rfl rfl rfl rfl ?_
    refine wl_pure Tryz.hT rfl rfl rfl ?_
    refine wl_loadBx 1 Tryz.hT rfl rfl rfl rfl rfl rfl rfl rfl ?_
    refine wl_buildRowZ Tryz.hZ Tryz.hT rfl rfl rfl rfl rfl rfl rfl rfl rfl rfl rfl fun bS => ?_
    refine wl_call1 rfl rfl rfl rfl rfl rfl (by kernel_rfl) (fun W hp => bnumbers_gives [f.1, f.2.1, f.2.2] (some ⟨bS, 0, none⟩) 3 (show 3 ≤ 4096 by decide) (bn3 n1 n2 n3) W (strs3 _ _ _ (RowAt.of_bx hp 2 rfl rfl)) (hv.hp hp) (ht.hp hp)) ?_
    refine wl_pure Tryz.hT rfl rfl rfl ?_
    refine wl_nil ?_
    refine zE ?_
    refine zA ?_
    refine zB ?_
    iterate 2 refine wl_pure Tryz.hT rfl rfl rfl ?_
    refine wl_nil ?_
    refine zE ?_
    refine zS rfl ?_
    refine zI ?_
    refine zE ?_
    refine zH ?_
    refine zA ?_
    refine zB ?_
    refine wl_loadBx 0 Tryz.hT rfl rfl rfl rfl rfl rfl rfl rfl ?_
    refine wl_pure Tryz.hT rfl rfl rfl ?_
    refine wl_loadBx 1 Tryz.hT rfl rfl rfl rfl rfl rfl rfl rfl ?_
    refine wl_call1 rfl rfl rfl rfl rfl rfl (by kernel_rfl) (fun W hp => boutside_gives b p (some ⟨g, off, none⟩) m n f.1 s0 (Rat.le_trans s1' s2) (n1.z2 bn0) (n1.z2 h.len) W (hv.hp hp) (ht.hp hp)) ?_
    refine wl_pure Tryz.hT rfl rfl rfl ?_
    refine wl_loadBx 0 Tryz.hT rfl rfl rfl rfl rfl rfl rfl rfl ?_
    refine wl_pure Tryz.hT rfl rfl rfl ?_
    refine wl_loadBx 1 Tryz.hT rfl rfl rfl rfl rfl rfl rfl rfl ?_
    refine wl_call1 rfl rfl rfl rfl rfl rfl (by kernel_rfl) (fun W hp => boutside_gives b p (some ⟨g, off, none⟩) m n f.2.1 (Rat.le_trans s0 s1') s2 (n2.z2 bn0) (n2.z2 h.len) W (hv.hp hp) (ht.hp hp)) ?_
    iterate 2 refine wl_pure Tryz.hT rfl rfl rfl ?_
    refine wl_nil ?_
    refine zE ?_
    refine zS rfl ?_
    refine zA ?_
    refine zB ?_
    refine wl_pure Tryz.hT rfl rfl rfl ?_
    refine wl_loadBx 1 Tryz.hT rfl rfl rfl rfl rfl rfl rfl rfl ?_
    refine wl_pure Tryz.hT rfl rfl rfl ?_
    refine wl_loadBx 1 Tryz.hT rfl rfl rfl rfl rfl rfl rfl rfl ?_
    refine wl_call1 rfl rfl rfl rfl rfl rfl (by kernel_rfl) (fun W hp => bcompare_gives f.1 f.2.1 (n1.z2 n2) W (hv.hp hp) (ht.hp hp)) ?_
    refine wl_pure Tryz.hT rfl rfl rfl ?_
    refine wl_upd 81 (.bool false) rfl (congrArg Value.bool ((cmpQ_ge0 f.1 f.2.1).trans (decide_eq_false (Rat.not_le.2 s1)))) ?_
    refine wl_pure Tryz.hT rfl rfl rfl ?_
    refine wl_nil ?_
    refine zE ?_
    refine zS rfl ?_
    refine zI ?_
    iterate 2 refine zN ?_
    refine zE ?_
    refine zB ?_
    refine wl_pure Tryz.hT rfl rfl rfl ?_
    refine wl_upd 82 (.int .i64 ((i + 1 : Nat) : Int)) rfl (congrArg (Value.int .i64) (w64_succ (by omega))) ?_
    refine wl_pure Tryz.hT rfl rfl rfl ?_
    refine wl_nil ?_
    exact ne_loop (i + 1) hlt (by show b.ss.length - (i + 1) < b.ss.length - i; omega) ⟨rfl, rfl, rfl, rfl, rfl, trivial⟩ [_, _] rfl
  refine wl_upd 50 (.bool false) rfl (congrArg Value.bool (decide_eq_false (by omega))) ?_
  refine wl_nil ?_
  refine zE ?_
  refine zA ?_
  refine zS rfl ?_
  refine zJ ?_
  iterate 2 refine zK ?_
  refine zL ?_
  refine zE ?_
  refine zA ?_
  refine zB ?_
  refine wl_pure Tryz.hT rfl rfl rfl ?_
  refine wl_nil ?_
  refine zE ?_
  refine zO ?_
  exact ne_ret1 Tryz.hT rfl (.tmp rfl) () rfl trivial fun W _ => NewBx.nil _ _
set_option maxHeartbeats 8000000 in
theorem bplace_gives (b : BmP) (h : BmC b) (x : Rat) (hx : PlQ b x) (p q : Option Addr) (m n : Nat) (W : World) (hM : BmM W b p q) :
    CallsR Tryz.prog 37 #[bmV b p m q n, str (numS x)] W (fun _ : Unit => .int .i64 0) (fun _ => True) (fun _ => []) := by
  have hv := hM.v
  have ht := hM.t
  have hk := hx.z.ok (by decide)
  have hl := numS_len hk
  have l1 := dd_len 56 x.num.natAbs (by decide) hx.z.1
  have l2 := dd_len 56 ((x.den : Nat) : Int).natAbs (by decide) (by rw [Int.natAbs_natCast]; exact hx.z.2)
  refine calls_enter (args := [bmV b p m q n, str (numS x)]) Tryz.func37 rfl rfl rfl ?_
  refine zA ?_
  refine zB ?_
  (refine wl_box rfl rfl rfl rfl ?_; intro)
  refine wl_pure Tryz.hT rfl rfl rfl ?_
  refine wl_nil ?_
  refine zE ?_
  iterate 2 refine zA ?_
  refine zB ?_
  refine wl_loadBx 0 Tryz.hT rfl rfl rfl rfl rfl rfl rfl rfl ?_
  refine wl_call1 rfl rfl rfl rfl rfl rfl (by kernel_rfl) (fun W hp => bcheck_gives b h p q m n W (hM.hp hp)) ?_
  refine wl_pure Tryz.hT rfl rfl rfl ?_
  refine wl_nil ?_
  refine zE ?_
  refine zS rfl ?_
  refine zI ?_
  refine zE ?_
  iterate 2 refine zA ?_
  refine zB ?_
  refine wl_pure Tryz.hT rfl rfl rfl ?_
  refine wl_call1 rfl rfl rfl rfl rfl rfl (by kernel_rfl) (fun W hp => (rcheck_gives (numS x) (by omega) W (hv.hp hp) (ht.hp hp)).cast (by rw [rd_okQ hk])) ?_
  refine wl_pure Tryz.hT rfl rfl rfl ?_
  refine wl_nil ?_
  refine zE ?_
  refine zA ?_
  refine zB ?_
  iterate 2 refine wl_pure Tryz.hT rfl rfl rfl ?_
  refine wl_nil ?_
  refine zE ?_
  refine zS rfl ?_
  refine zI ?_
  refine zE ?_
  refine zA ?_
  refine zB ?_
  refine wl_pure Tryz.hT rfl rfl rfl ?_
  refine wl_call1 rfl rfl rfl rfl rfl rfl (by kernel_rfl) (fun W hp => rparts_gives x hk W (hv.hp hp) (ht.hp hp)) ?_
  iterate 7 refine wl_pure Tryz.hT rfl rfl rfl ?_
  refine wl_nil ?_
  refine zE ?_
  iterate 2 refine zA ?_
  refine zB ?_
  refine wl_pure Tryz.hT rfl rfl rfl ?_
  refine wl_call1 rfl rfl rfl rfl rfl rfl (by kernel_rfl) (fun W _ => bdigits_gives x.num W) ?_
  refine wl_pure Tryz.hT rfl rfl rfl ?_
  refine wl_call1 rfl rfl rfl rfl rfl rfl (by kernel_rfl) (fun W _ => bdigits_gives (x.den : Nat) W) ?_
  iterate 2 refine wl_pure Tryz.hT rfl rfl rfl ?_
  refine wl_upd 28 (.bool false) rfl (congrArg Value.bool (decide_eq_false (by
    show ¬ ((if _ > _ then _ else _) > _)
    split <;> omega))) ?_
  refine wl_nil ?_
  refine zE ?_
  refine zS rfl ?_
  refine zI ?_
  refine zE ?_
  iterate 2 refine zA ?_
  refine zB ?_
  refine wl_loadBx 0 Tryz.hT rfl rfl rfl rfl rfl rfl rfl rfl ?_
  refine wl_pure Tryz.hT rfl rfl rfl ?_
  refine wl_call1 rfl rfl rfl rfl rfl rfl (by kernel_rfl) (fun W hp => boutside_gives b p q m n x hx.h0 hx.h1 (sz2 hx.z bn0.sz (by decide)) (sz2 hx.z h.len.sz (by decide)) W (hv.hp hp) (ht.hp hp)) ?_
  refine wl_nil ?_
  refine zE ?_
  refine zS rfl ?_
  refine zI ?_
  refine zE ?_
  refine zA ?_
  refine zB ?_
  refine wl_pure Tryz.hT rfl rfl rfl ?_
  refine wl_nil ?_
  refine zE ?_
  refine zO ?_
  exact ne_ret1 Tryz.hT rfl (.tmp rfl) () rfl trivial fun W _ => NewBx.nil _ _
theorem bReactions_gives (b : BmP) (h : BmC b) (hz : RcZ b) (p q : Option Addr) (m n : Nat) (W : World) (hM : BmM W b p q) :
    CallsR Tryz.prog 22 #[bmV b p m q n] W (fun _ : Unit => .tuple #[str (numS b.left), str (numS b.right), .int .i64 0]) (fun _ => True) (fun _ => []) := by
  refine calls_enter (args := [bmV b p m q n]) Tryz.func22 rfl rfl rfl ?_
  refine zA ?_
  refine zB ?_
  (refine wl_box rfl rfl rfl rfl ?_; intro)
  iterate 3 refine wl_pure Tryz.hT rfl rfl rfl ?_
  refine wl_nil ?_
  refine zE ?_
  iterate 2 refine zA ?_
  refine zB ?_
  refine wl_loadBx 0 Tryz.hT rfl rfl rfl rfl rfl rfl rfl rfl ?_
  refine wl_call1 rfl rfl rfl rfl rfl rfl (by kernel_rfl) (fun W hp => bcheck_gives b h p q m n W (hM.hp hp)) ?_
  refine wl_pure Tryz.hT rfl rfl rfl ?_
  refine wl_nil ?_
  refine zE ?_
  refine zS rfl ?_
  refine zI ?_
  refine zE ?_
  refine zA ?_
  refine zB ?_
  refine wl_loadBx 0 Tryz.hT rfl rfl rfl rfl rfl rfl rfl rfl ?_
  refine wl_call1 rfl rfl rfl rfl rfl rfl (by kernel_rfl) (fun W hp => reactions_gives b p q m n W (hM.hp hp) hz) ?_
  iterate 5 refine wl_pure Tryz.hT rfl rfl rfl ?_
  refine wl_nil ?_
  refine zE ?_
  refine zA ?_
  refine zB ?_
  iterate 5 refine wl_pure Tryz.hT rfl rfl rfl ?_
  refine wl_nil ?_
  refine zE ?_
  refine zO ?_
  exact ne_ret3 Tryz.hT rfl (.tmp rfl) (.tmp rfl) (.tmp rfl) () rfl trivial fun W _ => NewBx.nil _ _
theorem bTotal_gives (b : BmP) (h : BmC b) (hz : RcZ b) (p q : Option Addr) (m n : Nat) (W : World) (hM : BmM W b p q) :
    CallsR Tryz.prog 23 #[bmV b p m q n] W (fun _ : Unit => .tuple #[str (numS b.total), .int .i64 0]) (fun _ => True) (fun _ => []) := by
  refine calls_enter (args := [bmV b p m q n]) Tryz.func23 rfl rfl rfl ?_
  refine zA ?_
  refine zB ?_
  (refine wl_box rfl rfl rfl rfl ?_; intro)
  iterate 2 refine wl_pure Tryz.hT rfl rfl rfl ?_
  refine wl_nil ?_
  refine zE ?_
  iterate 2 refine zA ?_
  refine zB ?_
  refine wl_loadBx 0 Tryz.hT rfl rfl rfl rfl rfl rfl rfl rfl ?_
  refine wl_call1 rfl rfl rfl rfl rfl rfl (by kernel_rfl) (fun W hp => bcheck_gives b h p q m n W (hM.hp hp)) ?_
  refine wl_pure Tryz.hT rfl rfl rfl ?_
  refine wl_nil ?_
  refine zE ?_
  refine zS rfl ?_
  refine zI ?_
  refine zE ?_
  refine zA ?_
  refine zB ?_
  refine wl_loadBx 0 Tryz.hT rfl rfl rfl rfl rfl rfl rfl rfl ?_
  refine wl_call1 rfl rfl rfl rfl rfl rfl (by kernel_rfl) (fun W hp => total_gives b p q m n W (hM.hp hp) hz) ?_
  iterate 2 refine wl_pure Tryz.hT rfl rfl rfl ?_
  refine wl_nil ?_
  refine zE ?_
  refine zO ?_
  exact ne_ret2 Tryz.hT rfl (.tmp rfl) (.tmp rfl) () rfl trivial fun W _ => NewBx.nil _ _
theorem bShear_gives (b : BmP) (h : BmC b) (x : Rat) (hx : PlQ b x) (hz : ShZ b x) (p q : Option Addr) (m n : Nat) (W : World) (hM : BmM W b p q) :
    CallsR Tryz.prog 19 #[bmV b p m q n, str (numS x)] W (fun _ : Unit => .tuple #[str (numS (b.shear x)), .int .i64 0]) (fun _ => True) (fun _ => []) := by
  refine calls_enter (args := [bmV b p m q n, str (numS x)]) Tryz.func19 rfl rfl rfl ?_
  refine zA ?_
  refine zB ?_
  (refine wl_box rfl rfl rfl rfl ?_; intro)
  iterate 2 refine wl_pure Tryz.hT rfl rfl rfl ?_
  refine wl_nil ?_
  refine zE ?_
  iterate 2 refine zA ?_
  refine zB ?_
  refine wl_loadBx 0 Tryz.hT rfl rfl rfl rfl rfl rfl rfl rfl ?_
  refine wl_pure Tryz.hT rfl rfl rfl ?_
  refine wl_call1 rfl rfl rfl rfl rfl rfl (by kernel_rfl) (fun W hp => bplace_gives b h x hx p q m n W (hM.hp hp)) ?_
  refine wl_pure Tryz.hT rfl rfl rfl ?_
  refine wl_nil ?_
  refine zE ?_
  refine zA ?_
  refine zB ?_
  iterate 2 refine wl_pure Tryz.hT rfl rfl rfl ?_
  refine wl_nil ?_
  refine zE ?_
  refine zS rfl ?_
  refine zI ?_
  refine zE ?_
  refine zA ?_
  refine zB ?_
  refine wl_loadBx 0 Tryz.hT rfl rfl rfl rfl rfl rfl rfl rfl ?_
  refine wl_pure Tryz.hT rfl rfl rfl ?_
  refine wl_call1 rfl rfl rfl rfl rfl rfl (by kernel_rfl) (fun W hp => shear_gives b x p q m n W (hM.hp hp) hz) ?_
  iterate 2 refine wl_pure Tryz.hT rfl rfl rfl ?_
  refine wl_nil ?_
  refine zE ?_
  refine zO ?_
  exact ne_ret2 Tryz.hT rfl (.tmp rfl) (.tmp rfl) () rfl trivial fun W _ => NewBx.nil _ _
theorem bMoment_gives (b : BmP) (h : BmC b) (x : Rat) (hx : PlQ b x) (hz : MoZ b x) (p q : Option Addr) (m n : Nat) (W : World) (hM : BmM W b p q) :
    CallsR Tryz.prog 12 #[bmV b p m q n, str (numS x)] W (fun _ : Unit => .tuple #[str (numS (b.moment x)), .int .i64 0]) (fun _ => True) (fun _ => []) := by
  refine calls_enter (args := [bmV b p m q n, str (numS x)]) Tryz.func12 rfl rfl rfl ?_
  refine zA ?_
  refine zB ?_
  (refine wl_box rfl rfl rfl rfl ?_; intro)
  iterate 2 refine wl_pure Tryz.hT rfl rfl rfl ?_
  refine wl_nil ?_
  refine zE ?_
  iterate 2 refine zA ?_
  refine zB ?_
  refine wl_loadBx 0 Tryz.hT rfl rfl rfl rfl rfl rfl rfl rfl ?_
  refine wl_pure Tryz.hT rfl rfl rfl ?_
  refine wl_call1 rfl rfl rfl rfl rfl rfl (by kernel_rfl) (fun W hp => bplace_gives b h x hx p q m n W (hM.hp hp)) ?_
  refine wl_pure Tryz.hT rfl rfl rfl ?_
  refine wl_nil ?_
  refine zE ?_
  refine zA ?_
  refine zB ?_
  iterate 2 refine wl_pure Tryz.hT rfl rfl rfl ?_
  refine wl_nil ?_
  refine zE ?_
  refine zS rfl ?_
  refine zI ?_
  refine zE ?_
  refine zA ?_
  refine zB ?_
  refine wl_loadBx 0 Tryz.hT rfl rfl rfl rfl rfl rfl rfl rfl ?_
  refine wl_pure Tryz.hT rfl rfl rfl ?_
  refine wl_call1 rfl rfl rfl rfl rfl rfl (by kernel_rfl) (fun W hp => moment_gives b x p q m n W (hM.hp hp) hz) ?_
  iterate 2 refine wl_pure Tryz.hT rfl rfl rfl ?_
  refine wl_nil ?_
  refine zE ?_
  refine zO ?_
  exact ne_ret2 Tryz.hT rfl (.tmp rfl) (.tmp rfl) () rfl trivial fun W _ => NewBx.nil _ _
end Go.Proofs.YtddadjbflgdomaaGreatDoor
namespace Go.Proofs.YtddadjbflgdomaaGreatDoor
open Go Go.RowKit Go.Am Go.Lib
set_option maxRecDepth 100000
/-- Rows of pairs and of threes of short integers. -/
def PairsP (W : World) (p : Option Addr) (l : List (Int × Int)) : Prop := l = [] ∨ ∃ b off, p = some ⟨b, off, none⟩ ∧ ∀ i (hi : i < l.length), RowAt W b (off + i * 2) [.int .i8 l[i].1, .int .i8 l[i].2]
def ThreesP (W : World) (p : Option Addr) (l : List (Int × Int × Int)) : Prop := l = [] ∨ ∃ b off, p = some ⟨b, off, none⟩ ∧ ∀ i (hi : i < l.length), RowAt W b (off + i * 3) [.int .i8 l[i].1, .int .i8 l[i].2.1, .int .i8 l[i].2.2]
theorem PairsP.below {W W' : World} {p : Option Addr} {l : List (Int × Int)} {n : Nat} (h : PairsP W p l) (hn : W.heap.size ≤ n) (hb : Below n W W') : PairsP W' p l := by
  rcases h with h | ⟨b, off, h1, h2⟩
  · exact .inl h
  · exact .inr ⟨b, off, h1, fun i hi => (h2 i hi).below hn hb⟩
theorem PairsP.hp {W0 W : World} {bxs : List Bx} {p : Option Addr} {l : List (Int × Int)} (h : PairsP W0 p l) (hp : Hp W0 bxs W) : PairsP W p l := h.below (Nat.le_refl _) hp.below
theorem ThreesP.below {W W' : World} {p : Option Addr} {l : List (Int × Int × Int)} {n : Nat} (h : ThreesP W p l) (hn : W.heap.size ≤ n) (hb : Below n W W') : ThreesP W' p l := by
  rcases h with h | ⟨b, off, h1, h2⟩
  · exact .inl h
  · exact .inr ⟨b, off, h1, fun i hi => (h2 i hi).below hn hb⟩
theorem ThreesP.hp {W0 W : World} {bxs : List Bx} {p : Option Addr} {l : List (Int × Int × Int)} (h : ThreesP W0 p l) (hp : Hp W0 bxs W) : ThreesP W p l := h.below (Nat.le_refl _) hp.below
abbrev smbV (x : SmB) (p q : Option Addr) (c d : Nat) : Value := .agg #[.int .u8 (x.a : Nat), .int .u8 (x.b : Nat), .int .u8 (x.c : Nat), .slice p x.fs.length c, .slice q x.ss.length d]
structure SmbM (W : World) (x : SmB) (p q : Option Addr) (m e : Nat) : Prop where
  ba : x.a < 256
  bb : x.b < 256
  bc : x.c < 256
  ok : x.OK
  f : PairsP W p x.fs
  s : ThreesP W q x.ss
  cf : x.fs.length ≤ m
  cs : x.ss.length ≤ e
theorem SmbM.below {W W' : World} {x : SmB} {p q : Option Addr} {m e : Nat} (h : SmbM W x p q m e) (hb : Below W.heap.size W W') : SmbM W' x p q m e := ⟨h.ba, h.bb, h.bc, h.ok, h.f.below (Nat.le_refl _) hb, h.s.below (Nat.le_refl _) hb, h.cf, h.cs⟩
theorem SmbM.hp {W0 W : World} {bxs : List Bx} {x : SmB} {p q : Option Addr} {m e : Nat} (h : SmbM W0 x p q m e) (hp : Hp W0 bxs W) : SmbM W x p q m e := h.below hp.below
end Go.Proofs.YtddadjbflgdomaaGreatDoor
namespace Go.Proofs.YtddadjbflgdomaaGreatDoor
open Go Go.RowKit Go.Am Go.Lib
set_option maxRecDepth 10000
section
variable {r : Option Nat} {n : Nat} {P : Program} {N : Nat} {D : List Deferred} {ops : List Oper} {Q : Exit → Act → World → Prop} {o : Oper} {rest : List Oper} {env : Env} {A A2 : World → Prop} {R : Act → World → Prop}
theorem indexArr_run {ρ : Operand → Value} {t e : TypeId} {m : Nat} {x y : Operand} {k : IntKind} {b off : Nat} {z : Int} (ht : P.underlying t = some (.array m e)) (hs : ∀ W, (Go.sizeOf e).run P W = .ok 1 W) (ho : o.op = .indexAddr t x y)
    (hx : ρ x = .pointer (some ⟨b, off, none⟩)) (hy : ρ y = .int k z) (h0 : 0 ≤ z ∧ z < m) (W : World) : (execOp ρ o).run P W = .ok (.value (.pointer (some ⟨b, off + z.toNat * 1, none⟩))) W := by
  simp [execOp, ho, hx, hy, Instr.indexAt, Instr.sureAddr, asIntOf, run_underlying ht, hs, h0.1, h0.2, Addr.add_none]
theorem wl_indexArr {d : Nat} {t e : TypeId} {m : Nat} {x y : Operand} {k : IntKind} {b off : Nat} {z : Int} (ht : P.underlying t = some (.array m e)) (hs : ∀ W, (Go.sizeOf e).run P W = .ok 1 W) (hg : guardE ops N env o = some true) (hd : o.dst = some d) (ho : o.op = .indexAddr t x y)
    (hx : evO N env x = some (.pointer (some ⟨b, off, none⟩))) (hy : evO N env y = some (.int k z)) (h0 : 0 ≤ z ∧ z < m)
    (h : WL r n P N D ops Q rest ((d, .pointer (some ⟨b, off + z.toNat * 1, none⟩)) :: env) A) : WL r n P N D ops Q (o :: rest) env A :=
  wl_val hg hd (fun c e => by rw [ho] at e; cases e) (fun _ W hρ _ => indexArr_run ht hs ho (hρ _ _ hx) (hρ _ _ hy) h0 W) h
theorem wq_indexArr {d : Nat} {t e : TypeId} {m : Nat} {x y : Operand} {k : IntKind} {b off : Nat} {z : Int} (ht : P.underlying t = some (.array m e)) (hs : ∀ W, (Go.sizeOf e).run P W = .ok 1 W) (hg : guardE ops N env o = some true) (hd : o.dst = some d) (ho : o.op = .indexAddr t x y)
    (hx : evO N env x = some (.pointer (some ⟨b, off, none⟩))) (hy : evO N env y = some (.int k z)) (h0 : 0 ≤ z ∧ z < m)
    (h : WQ P N D ops A2 R rest ((d, .pointer (some ⟨b, off + z.toNat * 1, none⟩)) :: env) A) : WQ P N D ops A2 R (o :: rest) env A :=
  wq_val hg hd (fun c e => by rw [ho] at e; cases e) (fun _ W hρ _ => indexArr_run ht hs ho (hρ _ _ hx) (hρ _ _ hy) h0 W) h
theorem wq_cvA {d : Nat} {t u : TypeId} {x : Operand} {k k' kt : IntKind} {z : Int} (ht : P.underlying t = some (.int kt)) (hu : P.underlying u = some (.int k)) (hg : guardE ops N env o = some true) (hd : o.dst = some d) (ho : o.op = .convert t u x) (hx : evO N env x = some (.int k' z))
    (h : WQ P N D ops A2 R rest ((d, .int k (k.wrap z)) :: env) A) : WQ P N D ops A2 R (o :: rest) env A :=
  wq_val hg hd (fun c e => by rw [ho] at e; cases e) (fun ρ W hρ _ => by
    simp [execOp, ho, convert, hρ _ _ hx, run_underlying ht, run_underlying hu, Conv.intToInt]) h
end
end Go.Proofs.YtddadjbflgdomaaGreatDoor
namespace Go.Proofs.YtddadjbflgdomaaGreatDoor
open Go Go.RowKit Go.Am Go.Lib
set_option maxRecDepth 10000
section
variable {r : Option Nat} {n : Nat} {P : Program} {N : Nat} {D : List Deferred} {ops : List Oper} {Q : Exit → Act → World → Prop} {o : Oper} {rest : List Oper} {env : Env} {A : World → Prop}
theorem append_nil_run {W : World} {t ty e : TypeId} {size bytes : Nat} {z : Value} (hty : VecTy P t e size bytes z) {b : Option Addr} {k c c' : Nat} (hk : k ≤ c) :
    (Builtin.append_ #[t, t] ty #[.slice b k c, .slice none 0 c']).run P W = .ok (.slice b k c) W := by
  obtain ⟨i, hi, hz, hsz, hby⟩ := hty.hi
  have hs : (Go.sizeOf e).run P W = .ok i.size W := by simp [sizeOf, typeInfo, hi]
  cases b <;> simp [Builtin.append_, run_underlying hty.ht, hs, hk, Builtin.lenOf, Builtin.firstCells, storeCells]
theorem wl_appendNil {d : Nat} {t e : TypeId} {size bytes : Nat} {z : Value} (hty : VecTy P t e size bytes z) {c : Call} {s x : Operand} {b : Option Addr} {k cp cp' : Nat}
    (hg : guardE ops N env o = some true) (hd : o.dst = some d) (ho : o.op = .call c) (hc : c.callee = .builtin .append) (ha : c.args = #[s, x]) (hat : c.argTypes = #[t, t])
    (hs : evO N env s = some (.slice b k cp)) (hx : evO N env x = some (.slice none 0 cp')) (hk : k ≤ cp)
    (h : WL r n P N D ops Q rest ((d, .slice b k cp) :: env) A) : WL r n P N D ops Q (o :: rest) env A := .mk fun act W h2 h3 hp => by
  refine wl_step hg h2 (fun c e => by rw [ho] at e; cases e) ?_
  have hr := append_nil_run (P := P) (W := W) (ty := o.type) hty (b := b) (c' := cp') hk
  have e1 : c.args.map (ov env act).eval = #[.slice b k cp, .slice none 0 cp'] := by rw [ha]; simp [evO_sound h2 _ _ hs, evO_sound h2 _ _ hx]
  have : (execOp (ov env act).eval o).run P W = .ok (.value (.slice b k cp)) W := by
    simp only [execOp, ho, resolve, hc, invoke, builtin, e1, hat, Sem.run_bind, Sem.run_pure, Result.andThen_ok, hr]
  rw [this]
  simp only [Oper.uponIn, hd]
  exact h.out act W h2 h3 hp
end
/-- Where a slice of the frame's own begins, and how far it may grow. -/
def vAdr (V : Vec) : Option Addr := V.p.map fun g => ⟨g, 0, none⟩
def vCap (V : Vec) : Nat := match V.p with
  | none => 0
  | some _ => V.cap
theorem vec_val {V : Vec} {size n : Nat} {xs : List Value} (h : V.OK size n xs) : V.val n = .slice (vAdr V) n (vCap V) := by
  obtain ⟨p, cap, junk⟩ := V
  cases p with
  | none => rw [h.nil rfl]; rfl
  | some g => rfl
theorem vec_le {V : Vec} {size n : Nat} {xs : List Value} (h : V.OK size n xs) : n ≤ vCap V := by
  obtain ⟨p, cap, junk⟩ := V
  cases p with
  | none => rw [h.nil rfl]; exact Nat.le_refl _
  | some g => exact (h.cap (by simp)).1
/-- Cells at a slice's beginning. -/
def CellsP (W : World) (p : Option Addr) (cs : List Value) : Prop := cs = [] ∨ ∃ b off, p = some ⟨b, off, none⟩ ∧ RowAt W b off cs
theorem CellsP.below {W W' : World} {p : Option Addr} {l : List Value} {n : Nat} (h : CellsP W p l) (hn : W.heap.size ≤ n) (hb : Below n W W') : CellsP W' p l := by
  rcases h with h | ⟨b, off, h1, h2⟩
  · exact .inl h
  · exact .inr ⟨b, off, h1, h2.below hn hb⟩
theorem CellsP.hp {W0 W : World} {bxs : List Bx} {p : Option Addr} {l : List Value} (h : CellsP W0 p l) (hp : Hp W0 bxs W) : CellsP W p l := h.below (Nat.le_refl _) hp.below
theorem CellsP.get {W : World} {b : Nat} {off : Nat} {l : List Value} (h : CellsP W (some ⟨b, off, none⟩) l) : ∀ j u, l[j]? = some u → W.cell? ⟨b, off + j, none⟩ = some u := fun j u hu => by
  rcases h with h | ⟨b', off', e, h⟩
  · rw [h] at hu; simp at hu
  · cases e; exact h.get j u hu
theorem CellsP.of_vec {V : Vec} {size n : Nat} {xs : List Value} {e : TypeId} {W0 W : World} {bxs : List Bx} (hV : V.OK size n xs) (k : Nat) (hk : nth bxs k = some (V.bx e xs)) (hp : Hp W0 bxs W) : CellsP W (vAdr V) xs := by
  obtain ⟨p, cap, junk⟩ := V
  cases p with
  | none =>
    have h1 := hV.len
    rw [hV.nil rfl, Nat.zero_mul] at h1
    exact .inl (List.length_eq_zero_iff.1 h1)
  | some g => exact .inr ⟨g, 0, rfl, row_pt hp k (A := []) (C := junk) hk rfl rfl⟩
theorem CellsP.none {W : World} {l : List Value} (h : CellsP W none l) : l = [] := by
  rcases h with h | ⟨b, off, e, _⟩
  · exact h
  · cases e
end Go.Proofs.YtddadjbflgdomaaGreatDoor
namespace Go.Proofs.YtddadjbflgdomaaGreatDoor
open Go Go.RowKit Go.Am Go.Lib
set_option maxRecDepth 10000
-- BOXES 7
def foC (l : List (Rat × Rat)) : List Value := l.flatMap fun f => [str (numS f.1), str (numS f.2)]
def spC (l : List (Rat × Rat × Rat)) : List Value := l.flatMap fun s => [str (numS s.1), str (numS s.2.1), str (numS s.2.2)]
theorem foC_app (a b : List (Rat × Rat)) : foC (a ++ b) = foC a ++ foC b := List.flatMap_append
theorem spC_app (a b : List (Rat × Rat × Rat)) : spC (a ++ b) = spC a ++ spC b := List.flatMap_append
theorem foC_len (l : List (Rat × Rat)) : (foC l).length = l.length * 2 := by
  induction l with
  | nil => rfl
  | cons f l ih => show ((foC l).length + 1) + 1 = (l.length + 1) * 2; omega
theorem spC_len (l : List (Rat × Rat × Rat)) : (spC l).length = l.length * 3 := by
  induction l with
  | nil => rfl
  | cons f l ih => show (((spC l).length + 1) + 1) + 1 = (l.length + 1) * 3; omega
theorem fos_of {V : Vec} {l : List (Rat × Rat)} {n : Nat} {W0 W : World} {bxs : List Bx} (hV : V.OK 2 n (foC l)) (k : Nat) (hk : nth bxs k = some (V.bx 46 (foC l))) (hp : Hp W0 bxs W) : FosP W (vAdr V) l := by
  obtain ⟨p, cap, junk⟩ := V
  cases p with
  | none =>
    have h0 : n = 0 := hV.nil rfl
    have h1 := hV.len
    rw [foC_len, h0] at h1
    exact .inl (List.length_eq_zero_iff.1 (by omega))
  | some g =>
    refine .inr ⟨g, 0, rfl, fun i hi => ?_⟩
    refine row_pt hp k (A := foC (l.take i)) (C := foC (l.drop (i + 1)) ++ junk) hk ?_ (by rw [foC_len, List.length_take]; omega)
    have e : foC l = foC (l.take i) ++ ([str (numS l[i].1), str (numS l[i].2)] ++ foC (l.drop (i + 1))) := by
      conv => lhs; rw [← List.take_append_drop i l, List.drop_eq_getElem_cons hi, foC_app]
      rfl
    rw [e, List.append_assoc, List.append_assoc]
theorem sps_of {V : Vec} {l : List (Rat × Rat × Rat)} {n : Nat} {W0 W : World} {bxs : List Bx} (hV : V.OK 3 n (spC l)) (k : Nat) (hk : nth bxs k = some (V.bx 51 (spC l))) (hp : Hp W0 bxs W) : SpsP W (vAdr V) l := by
  obtain ⟨p, cap, junk⟩ := V
  cases p with
  | none =>
    have h0 : n = 0 := hV.nil rfl
    have h1 := hV.len
    rw [spC_len, h0] at h1
    exact .inl (List.length_eq_zero_iff.1 (by omega))
  | some g =>
    refine .inr ⟨g, 0, rfl, fun i hi => ?_⟩
    refine row_pt hp k (A := spC (l.take i)) (C := spC (l.drop (i + 1)) ++ junk) hk ?_ (by rw [spC_len, List.length_take]; omega)
    have e : spC l = spC (l.take i) ++ ([str (numS l[i].1), str (numS l[i].2.1), str (numS l[i].2.2)] ++ spC (l.drop (i + 1))) := by
      conv => lhs; rw [← List.take_append_drop i l, List.drop_eq_getElem_cons hi, spC_app]
      rfl
    rw [e, List.append_assoc, List.append_assoc]
theorem take_min {α : Type} (l : List α) (n : Nat) : l.take (min l.length n) = l.take n := by
  by_cases h : l.length ≤ n
  · rw [Nat.min_eq_left h, List.take_length, List.take_of_length_le h]
  · rw [Nat.min_eq_right (by omega)]
def SmB.fsT (x : SmB) (i : Nat) : List (Rat × Rat) := (x.fs.take i).map x.fo
def SmB.ssT (x : SmB) (i : Nat) : List (Rat × Rat × Rat) := (x.ss.take i).map x.sp
theorem SmB.fsT_succ (x : SmB) {i : Nat} (hi : i < x.fs.length) : x.fsT (i + 1) = x.fsT i ++ [x.fo x.fs[i]] := by
  unfold SmB.fsT; rw [List.take_add_one, List.getElem?_eq_getElem hi, List.map_append]; rfl
theorem SmB.ssT_succ (x : SmB) {i : Nat} (hi : i < x.ss.length) : x.ssT (i + 1) = x.ssT i ++ [x.sp x.ss[i]] := by
  unfold SmB.ssT; rw [List.take_add_one, List.getElem?_eq_getElem hi, List.map_append]; rfl
theorem SmB.fsT_all (x : SmB) : x.fsT (min x.fs.length 5) = x.of.fs := by unfold SmB.fsT; rw [take_min]; rfl
theorem SmB.ssT_all (x : SmB) : x.ssT (min x.ss.length 4) = x.of.ss := by unfold SmB.ssT; rw [take_min]; rfl
theorem SmB.len_fs (x : SmB) : x.of.fs.length = min x.fs.length 5 := by show ((x.fs.take 5).map x.fo).length = _; rw [List.length_map, List.length_take]; omega
theorem SmB.len_ss (x : SmB) : x.of.ss.length = min x.ss.length 4 := by show ((x.ss.take 4).map x.sp).length = _; rw [List.length_map, List.length_take]; omega
abbrev smbB (g : Nat) (x : SmB) (p q : Option Addr) (c e : Nat) : Bx := ⟨g, 25, (smbV x p q c e).cells.toList, true, none⟩
abbrev bm0 (g : Nat) : Bx := ⟨g, 31, [str [], str [], str [], .slice none 0 0, .slice none 0 0], true, none⟩
abbrev bmS (g : Nat) (x : SmB) (u v : Value) : Bx := ⟨g, 31, [str (numS (nrm (x.n : Nat) 2)), str (numS (nrm (x.l : Nat) 2)), str (numS (nrm (x.r : Nat) 2)), u, v], true, none⟩
/-- Two rows of loads. -/
structure BmV (b : BmP) where
  f : Vec
  s : Vec
  hf : f.OK 2 b.fs.length (foC b.fs)
  hs : s.OK 3 b.ss.length (spC b.ss)
abbrev BmV.val {b : BmP} (V : BmV b) : Value := bmV b (vAdr V.f) (vCap V.f) (vAdr V.s) (vCap V.s)
abbrev BmV.bf {b : BmP} (V : BmV b) : Bx := V.f.bx 46 (foC b.fs)
abbrev BmV.bs {b : BmP} (V : BmV b) : Bx := V.s.bx 51 (spC b.ss)
theorem BmV.m {b : BmP} (V : BmV b) {W0 W : World} {bxs : List Bx} (j k : Nat) (hj : nth bxs j = some V.bf) (hk : nth bxs k = some V.bs) (hp : Hp W0 bxs W) (hv : MaxP W0) (ht : TabP W0) : BmM W b (vAdr V.f) (vAdr V.s) :=
  ⟨fos_of V.hf j hj hp, sps_of V.hs k hk hp, hv.hp hp, ht.hp hp⟩
set_option maxHeartbeats 16000000 in
theorem lawof_gives (x : SmB) (p q : Option Addr) (m n : Nat) (W : World) (hM : SmbM W x p q m n) (hv : MaxP W) (ht : TabP W) :
    CallsR Tryz.prog 10 #[smbV x p q m n] W (fun V : BmV x.of => .tuple #[V.val, .bool true]) (fun _ => True) (fun V => [V.bf, V.bs]) := by
  have h1 := x.n_rng
  have h2 := x.l_rng
  have h3 := x.r_rng
  have ba := hM.ba
  have bb := hM.bb
  have bc := hM.bc
  have hcf := hM.cf
  have hcs := hM.cs
  refine calls_enter (args := [smbV x p q m n]) Tryz.func10 rfl rfl rfl ?_
  refine zA ?_
  refine zB ?_
  (refine wl_box rfl rfl rfl rfl ?_; intro)
  (refine wl_allocZ Tryz.hZ rfl rfl rfl rfl ?_; intro)
  refine wl_pure Tryz.hT rfl rfl rfl ?_
  refine wl_nil ?_
  rename_i b1 b2
  refine zE ?_
  refine zA ?_
  refine zB ?_
  refine wl_pure Tryz.hT rfl rfl rfl ?_
  refine wl_loadBx 0 Tryz.hT rfl rfl rfl rfl rfl rfl rfl rfl ?_
  refine wl_cvA Tryz.underlying5 Tryz.underlying3 rfl rfl rfl rfl ?_
  refine wl_upd 16 (.int .i64 (x.a : Nat)) rfl (congrArg (Value.int .i64) (w64_nat (by omega))) ?_
  refine wl_rem rfl rfl rfl rfl rfl (by decide) ?_
  refine wl_upd 17 (.int .i64 ((x.a % 24 : Nat) : Int)) rfl (congrArg (Value.int .i64) (by rw [Int.tmod_eq_emod_of_nonneg (by omega)]; omega)) ?_
  refine wl_pure Tryz.hT rfl rfl rfl ?_
  refine wl_upd 18 (.int .i64 (x.n : Nat)) rfl (congrArg (Value.int .i64) (by show w64 (((x.a % 24 : Nat) : Int) + 2) = _; rw [w64_id (by omega) (by omega)]; unfold SmB.n; omega)) ?_
  refine wl_pure Tryz.hT rfl rfl rfl ?_
  refine wl_nil ?_
  refine zE ?_
  refine zA ?_
  refine zB ?_
  refine wl_pure Tryz.hT rfl rfl rfl ?_
  refine wl_loadBx 0 Tryz.hT rfl rfl rfl rfl rfl rfl rfl rfl ?_
  refine wl_cvA Tryz.underlying5 Tryz.underlying3 rfl rfl rfl rfl ?_
  refine wl_upd 21 (.int .i64 (x.b : Nat)) rfl (congrArg (Value.int .i64) (w64_nat (by omega))) ?_
  iterate 2 refine wl_pure Tryz.hT rfl rfl rfl ?_
  refine wl_upd 23 (.int .i64 ((x.n - 1 : Nat) : Int)) rfl (congrArg (Value.int .i64) (show w64 ((x.n : Nat) - 1) = _ by rw [w64_id (by omega) (by omega)]; omega)) ?_
  refine wl_rem rfl rfl rfl rfl rfl (by omega) ?_
  refine wl_upd 24 (.int .i64 (x.l : Nat)) rfl (congrArg (Value.int .i64) (by rw [Int.tmod_eq_emod_of_nonneg (by omega)]; exact (Int.natCast_emod _ _).symm)) ?_
  refine wl_pure Tryz.hT rfl rfl rfl ?_
  refine wl_nil ?_
  refine zE ?_
  refine zA ?_
  refine zB ?_
  iterate 2 refine wl_pure Tryz.hT rfl rfl rfl ?_
  refine wl_upd 26 (.int .i64 ((x.l + 1 : Nat) : Int)) rfl (congrArg (Value.int .i64) (w64_succ (by omega))) ?_
  refine wl_pure Tryz.hT rfl rfl rfl ?_
  refine wl_loadBx 0 Tryz.hT rfl rfl rfl rfl rfl rfl rfl rfl ?_
  refine wl_cvA Tryz.underlying5 Tryz.underlying3 rfl rfl rfl rfl ?_
  refine wl_upd 29 (.int .i64 (x.c : Nat)) rfl (congrArg (Value.int .i64) (w64_nat (by omega))) ?_
  iterate 3 refine wl_pure Tryz.hT rfl rfl rfl ?_
  refine wl_upd 32 (.int .i64 ((x.n - x.l : Nat) : Int)) rfl (congrArg (Value.int .i64) (show w64 ((x.n : Nat) - (x.l : Nat)) = _ by rw [w64_id (by omega) (by omega)]; omega)) ?_
  refine wl_rem rfl rfl rfl rfl rfl (by omega) ?_
  refine wl_upd 33 (.int .i64 ((x.c % (x.n - x.l) : Nat) : Int)) rfl (congrArg (Value.int .i64) (by rw [Int.tmod_eq_emod_of_nonneg (by omega)]; exact (Int.natCast_emod _ _).symm)) ?_
  refine wl_pure Tryz.hT rfl rfl rfl ?_
  have hcl : x.c % (x.n - x.l) < 256 := Nat.lt_of_le_of_lt (Nat.mod_le _ _) bc
  obtain ⟨r0, hr0⟩ : ∃ r0, r0 = x.l + 1 + x.c % (x.n - x.l) := ⟨_, rfl⟩
  have hr : x.r = min r0 x.n := by rw [hr0]; rfl
  refine wl_upd 34 (.int .i64 (r0 : Nat)) rfl (congrArg (Value.int .i64) (show w64 (((x.l + 1 : Nat) : Int) + ((x.c % (x.n - x.l) : Nat) : Int)) = _ by rw [w64_id (by omega) (by omega)]; omega)) ?_
  refine wl_pure Tryz.hT rfl rfl rfl ?_
  refine wl_nil ?_
  refine zE ?_
  refine zA ?_
  refine zB ?_
  refine wl_pure Tryz.hT rfl rfl rfl ?_
  refine wl_call1 rfl rfl rfl rfl rfl rfl (by kernel_rfl) (fun W hp => bnum_gives (x.n : Nat) (by omega) W (ht.hp hp)) ?_
  refine wl_pure Tryz.hT rfl rfl rfl ?_
  refine wl_call1 rfl rfl rfl rfl rfl rfl (by kernel_rfl) (fun W hp => bnum_gives (x.l : Nat) (by omega) W (ht.hp hp)) ?_
  iterate 3 refine wl_pure Tryz.hT rfl rfl rfl ?_
  refine wl_upd 41 (.int .i64 (x.r : Nat)) rfl (congrArg (Value.int .i64) (by show (if _ then _ else _) = _; split <;> omega)) ?_
  refine wl_call1 rfl rfl rfl rfl rfl rfl (by kernel_rfl) (fun W hp => bnum_gives (x.r : Nat) (by omega) W (ht.hp hp)) ?_
  refine wl_buildZ Tryz.hZ Tryz.hT rfl rfl rfl rfl rfl rfl rfl rfl ?_
  (refine wl_allocZ Tryz.hZ rfl rfl rfl rfl ?_; intro)
  refine wl_storeBx 2 Tryz.hT rfl rfl rfl rfl rfl rfl rfl rfl rfl rfl rfl ?_
  refine wl_nil ?_
  rename_i b7
  obtain ⟨k5, hk5⟩ : ∃ k, k = min x.fs.length 5 := ⟨_, rfl⟩
  obtain ⟨k4, hk4⟩ : ∃ k, k = min x.ss.length 4 := ⟨_, rfl⟩
  refine zE ?_
  iterate 2 refine zA ?_
  refine zB ?_
  refine wl_pure Tryz.hT rfl rfl rfl ?_
  refine wl_loadBx 0 Tryz.hT rfl rfl rfl rfl rfl rfl rfl rfl ?_
  refine wl_pure Tryz.hT rfl rfl rfl ?_
  refine wl_loadBx 0 Tryz.hT rfl rfl rfl rfl rfl rfl rfl rfl ?_
  iterate 2 refine wl_pure Tryz.hT rfl rfl rfl ?_
  refine wl_upd 49 (.int .i64 (k5 : Nat)) rfl (congrArg (Value.int .i64) (by show (if _ then _ else _) = _; split <;> omega)) ?_
  refine wl_slice_h k5 Tryz.hT rfl rfl rfl rfl rfl rfl rfl rfl (by omega) ?_
  iterate 2 refine wl_pure Tryz.hT rfl rfl rfl ?_
  refine wl_nil ?_
  refine zE ?_
  refine zH ?_
  refine wc_newGone ?_
  refine wc_loop (X := Nat × Vec) (fun s => [(1, selfP b1), (2, selfP b2), (4, .int .i64 (x.n : Nat)), (7, selfP b7), (50, .slice p k5 m), (51, .int .i64 (k5 : Nat)), (52, .int .i64 (s.1 : Nat))]) (fun s => [smbB b1 x p q m n, bm0 b2, bmS b7 x (s.2.val s.1) (.slice none 0 0), s.2.bx 46 (foC (x.fsT s.1))])
    (fun s => s.1 ≤ k5 ∧ s.2.OK 2 s.1 (foC (x.fsT s.1))) (fun s => k5 - s.1) (0, Vec.empty) ⟨Nat.zero_le _, Vec.OK.empty 2⟩ ⟨rfl, rfl, rfl, rfl, rfl, rfl, rfl, trivial⟩ [] rfl ?_
  rintro ⟨i, V⟩ ⟨hi, hV⟩
  have hi : i ≤ k5 := hi
  have hV : V.OK 2 i (foC (x.fsT i)) := hV
  refine zA ?_
  refine zB ?_
  refine wl_pure Tryz.hT rfl rfl rfl ?_
  by_cases hlt : i < k5
  · refine wl_upd 53 (.bool true) rfl (congrArg Value.bool (decide_eq_true (by omega))) ?_
    refine wl_nil ?_
    refine zE ?_
    refine zA ?_
    refine zR rfl ?_
    refine zI ?_
    refine zE ?_
    refine zA ?_
    refine zH ?_
    refine zA ?_
    refine zB ?_
    have hil : i < x.fs.length := by omega
    obtain ⟨f, hfe⟩ : ∃ f, f = x.fs[i] := ⟨_, rfl⟩
    have hsuc := x.fsT_succ hil
    rw [← hfe] at hsuc
    obtain ⟨⟨f1, f2⟩, f3, f4⟩ := hM.ok.f f (hfe ▸ List.getElem_mem hil)
    obtain ⟨g, off, hpe, hrow⟩ : ∃ g off, p = some ⟨g, off, none⟩ ∧ RowAt W g (off + i * 2) [.int .i8 f.1, .int .i8 f.2] := by
      rcases hM.f with h | ⟨g, off, e, h⟩
      · rw [h] at hil; exact absurd hil (Nat.not_lt_zero _)
      · exact ⟨g, off, e, by rw [hfe]; exact h i hil⟩
    subst hpe
    refine wl_indexAddr Tryz.hT rfl rfl rfl rfl rfl rfl rfl (by omega) (by omega) ?_
    refine wl_load rfl rfl rfl rfl (fun W hp => RowAt.load 0 Tryz.hT rfl ((fun W1 hp => hrow.hp hp) W hp) rfl) ?_
    (refine wl_allocZ Tryz.hZ rfl rfl rfl rfl ?_; intro)
    refine wl_storeBx 4 Tryz.hT rfl rfl rfl rfl rfl rfl rfl rfl rfl rfl rfl ?_
    refine wl_nil ?_
    rename_i b9
    refine zE ?_
    have hr := x.fo_rng f
    refine wc_lateY (X := { V' : Vec // V'.OK 2 (i + 1) (foC (x.fsT (i + 1))) }) [true, true, true, true, true, true, true, true, true, true, true, true, true, true, true, false, false, false, false] (fun _ => [(1, selfP b1), (2, selfP b2), (4, .int .i64 (x.n : Nat)), (7, selfP b7), (50, .slice (some ⟨g, off, none⟩) k5 m), (51, .int .i64 (k5 : Nat)), (52, .int .i64 (i : Nat))])
      (fun V' => [smbB b1 x (some ⟨g, off, none⟩) q m n, bm0 b2, bmS b7 x (V'.1.val (i + 1)) (.slice none 0 0), V'.1.bx 46 (foC (x.fsT (i + 1)))])
      4 [smbB b1 x (some ⟨g, off, none⟩) q m n, bm0 b2, bmS b7 x (V.val i) (.slice none 0 0), V.bx 46 (foC (x.fsT i)), ⟨b9, 63, [.int .i8 f.1, .int .i8 f.2], true, none⟩] Tryz.mixed (by kernel_rfl) ?_ ?_
    · refine wq_pure Tryz.hT rfl rfl rfl ?_
      refine wq_loadBx 2 Tryz.hT rfl rfl rfl rfl rfl rfl rfl rfl ?_
      refine wq_indexArr Tryz.underlying63 Tryz.sizeOf48 rfl rfl rfl rfl rfl ⟨by decide, by decide⟩ ?_
      refine wq_loadBx 4 Tryz.hT rfl rfl rfl rfl rfl rfl rfl rfl ?_
      refine wq_cvA Tryz.underlying48 Tryz.underlying3 rfl rfl rfl rfl ?_
      refine wq_upd 60 (.int .i64 f.1) rfl (congrArg (Value.int .i64) (w64_id (by omega) (by omega))) ?_
      refine wq_pure Tryz.hT rfl rfl rfl ?_
      refine wq_upd 61 (.int .i64 (f.1 + 128)) rfl (congrArg (Value.int .i64) (w64_id (by omega) (by omega))) ?_
      iterate 2 refine wq_pure Tryz.hT rfl rfl rfl ?_
      refine wq_upd 63 (.int .i64 ((x.n : Int) + 1)) rfl (congrArg (Value.int .i64) (w64_id (by omega) (by omega))) ?_
      refine wq_rem rfl rfl rfl rfl rfl (by omega) ?_
      refine wq_upd 64 (.int .i64 ((f.1 + 128) % ((x.n : Int) + 1))) rfl (congrArg (Value.int .i64) (Int.tmod_eq_emod_of_nonneg (by omega))) ?_
      refine wq_call1 rfl rfl rfl rfl rfl rfl (by kernel_rfl) (fun W hp => bnum_gives ((f.1 + 128) % ((x.n : Int) + 1)) (by omega) W (ht.hp hp)) ?_
      refine wq_indexArr Tryz.underlying63 Tryz.sizeOf48 rfl rfl rfl rfl rfl ⟨by decide, by decide⟩ ?_
      refine wq_loadBx 4 Tryz.hT rfl rfl rfl rfl rfl rfl rfl rfl ?_
      refine wq_cvA Tryz.underlying48 Tryz.underlying3 rfl rfl rfl rfl ?_
      refine wq_upd 68 (.int .i64 f.2) rfl (congrArg (Value.int .i64) (w64_id (by omega) (by omega))) ?_
      refine wq_call1 rfl rfl rfl rfl rfl rfl (by kernel_rfl) (fun W hp => bnum_gives f.2 (by omega) W (ht.hp hp)) ?_
      refine wq_buildZ Tryz.hZ Tryz.hT rfl rfl rfl rfl rfl rfl rfl rfl ?_
      refine wq_wt ?_
      refine wt_step rfl rfl (by ((repeat (first | refine Weak.same ?_ | refine Weak.off rfl ?_)); exact trivial)) ?_
      refine RS.cons ?_ (RS.nil)
      refine wl_buildRowZ Tryz.hZ Tryz.hT rfl rfl rfl rfl rfl rfl rfl rfl rfl rfl rfl fun bN => ?_
      refine wl_nil ?_
      refine ne_wt ?_
      refine wt_step rfl rfl (by ((repeat (first | refine Weak.same ?_ | refine Weak.off rfl ?_)); exact trivial)) ?_
      refine RS.cons ?_ (RS.nil)
      refine wl_appendTo (V := V) (len := i) (xs := foC (x.fsT i)) 3 5 Tryz.vec28 (i + 1) (foC (x.fsT (i + 1))) rfl rfl rfl rfl rfl rfl rfl rfl rfl rfl rfl hV rfl rfl rfl (by rw [hsuc, foC_app]; rfl) (by simp only [maxLen]; omega) (by omega) rfl ?_; intro gV cV jV hV1
      refine wl_nil ?_
      refine ne_wt ?_
      refine wt_stepF rfl rfl (by kernel_rfl) ?_
      refine RS.cons ?_ (RS.nil)
      refine wl_pure Tryz.hT rfl rfl rfl ?_
      refine wl_nil ?_
      refine ne_wt ?_
      refine wt_stepF rfl rfl (by kernel_rfl) ?_
      refine RS.cons ?_ (RS.nil)
      refine wl_storeBx 2 Tryz.hT rfl rfl rfl rfl rfl rfl rfl rfl rfl rfl rfl ?_
      refine wl_nil ?_
      refine ne_wt ?_
      refine wt_doneF rfl (by kernel_rfl) ?_
      exact ne_late ⟨⟨some gV, cV, jV⟩, hV1⟩ ⟨rfl, rfl, rfl, rfl, rfl, rfl, rfl, trivial⟩ [0, 1, 2, 3] (by decide) rfl
    intro V'
    refine zN ?_
    refine zE ?_
    refine zB ?_
    refine wl_pure Tryz.hT rfl rfl rfl ?_
    refine wl_upd 74 (.int .i64 ((i + 1 : Nat) : Int)) rfl (congrArg (Value.int .i64) (w64_succ (by omega))) ?_
    refine wl_pure Tryz.hT rfl rfl rfl ?_
    refine wl_nil ?_
    exact ne_loop (i + 1, V'.1) ⟨hlt, V'.2⟩ (by show k5 - (i + 1) < k5 - i; omega) ⟨rfl, rfl, rfl, rfl, rfl, rfl, rfl, trivial⟩ [] rfl
  have e : i = k5 := by omega
  subst e
  refine wl_upd 53 (.bool false) rfl (congrArg Value.bool (decide_eq_false (by omega))) ?_
  refine wl_nil ?_
  refine zE ?_
  refine zA ?_
  refine zS rfl ?_
  refine zJ ?_
  iterate 2 refine zK ?_
  refine zL ?_
  refine zE ?_
  iterate 2 refine zA ?_
  refine zB ?_
  refine wl_pure Tryz.hT rfl rfl rfl ?_
  refine wl_loadBx 0 Tryz.hT rfl rfl rfl rfl rfl rfl rfl rfl ?_
  refine wl_pure Tryz.hT rfl rfl rfl ?_
  refine wl_loadBx 0 Tryz.hT rfl rfl rfl rfl rfl rfl rfl rfl ?_
  iterate 2 refine wl_pure Tryz.hT rfl rfl rfl ?_
  refine wl_upd 80 (.int .i64 (k4 : Nat)) rfl (congrArg (Value.int .i64) (by show (if _ then _ else _) = _; split <;> omega)) ?_
  refine wl_slice_h k4 Tryz.hT rfl rfl rfl rfl rfl rfl rfl rfl (by omega) ?_
  iterate 2 refine wl_pure Tryz.hT rfl rfl rfl ?_
  refine wl_nil ?_
  refine zE ?_
  refine zH ?_
  refine wc_newGone ?_
  refine wc_loop (X := Nat × Vec) (fun s => [(1, selfP b1), (2, selfP b2), (4, .int .i64 (x.n : Nat)), (7, selfP b7), (81, .slice q k4 n), (82, .int .i64 (k4 : Nat)), (83, .int .i64 (s.1 : Nat))]) (fun s => [smbB b1 x p q m n, bm0 b2, bmS b7 x (V.val i) (s.2.val s.1), V.bx 46 (foC (x.fsT i)), s.2.bx 51 (spC (x.ssT s.1))])
    (fun s => s.1 ≤ k4 ∧ s.2.OK 3 s.1 (spC (x.ssT s.1))) (fun s => k4 - s.1) (0, Vec.empty) ⟨Nat.zero_le _, Vec.OK.empty 3⟩ ⟨rfl, rfl, rfl, rfl, rfl, rfl, rfl, trivial⟩ [] rfl ?_
  rintro ⟨j, U⟩ ⟨hj, hU⟩
  have hj : j ≤ k4 := hj
  have hU : U.OK 3 j (spC (x.ssT j)) := hU
  refine zA ?_
  refine zB ?_
  refine wl_pure Tryz.hT rfl rfl rfl ?_
  by_cases hlt : j < k4
  · refine wl_upd 84 (.bool true) rfl (congrArg Value.bool (decide_eq_true (by omega))) ?_
    refine wl_nil ?_
    refine zE ?_
    refine zA ?_
    refine zR rfl ?_
    refine zI ?_
    refine zE ?_
    refine zA ?_
    refine zH ?_
    refine zA ?_
    refine zB ?_
    have hil : j < x.ss.length := by omega
    obtain ⟨f, hfe⟩ : ∃ f, f = x.ss[j] := ⟨_, rfl⟩
    have hsuc := x.ssT_succ hil
    rw [← hfe] at hsuc
    obtain ⟨⟨f1, f2⟩, ⟨f3, f4⟩, f5, f6⟩ := hM.ok.s f (hfe ▸ List.getElem_mem hil)
    obtain ⟨g, off, hpe, hrow⟩ : ∃ g off, q = some ⟨g, off, none⟩ ∧ RowAt W g (off + j * 3) [.int .i8 f.1, .int .i8 f.2.1, .int .i8 f.2.2] := by
      rcases hM.s with h | ⟨g, off, e, h⟩
      · rw [h] at hil; exact absurd hil (Nat.not_lt_zero _)
      · exact ⟨g, off, e, by rw [hfe]; exact h j hil⟩
    subst hpe
    have r1 := x.fr_rng f
    have r2 := x.to_rng f
    refine wl_indexAddr Tryz.hT rfl rfl rfl rfl rfl rfl rfl (by omega) (by omega) ?_
    refine wl_load rfl rfl rfl rfl (fun W hp => RowAt.load 0 Tryz.hT rfl ((fun W1 hp => hrow.hp hp) W hp) rfl) ?_
    (refine wl_allocZ Tryz.hZ rfl rfl rfl rfl ?_; intro)
    refine wl_storeBx 5 Tryz.hT rfl rfl rfl rfl rfl rfl rfl rfl rfl rfl rfl ?_
    refine wl_nil ?_
    rename_i b11
    refine zE ?_
    refine zA ?_
    refine zB ?_
    refine wl_indexArr Tryz.underlying64 Tryz.sizeOf48 rfl rfl rfl rfl rfl ⟨by decide, by decide⟩ ?_
    refine wl_loadBx 5 Tryz.hT rfl rfl rfl rfl rfl rfl rfl rfl ?_
    refine wl_cvA Tryz.underlying48 Tryz.underlying3 rfl rfl rfl rfl ?_
    refine wl_upd 89 (.int .i64 f.1) rfl (congrArg (Value.int .i64) (w64_id (by omega) (by omega))) ?_
    refine wl_pure Tryz.hT rfl rfl rfl ?_
    refine wl_upd 90 (.int .i64 (f.1 + 128)) rfl (congrArg (Value.int .i64) (w64_id (by omega) (by omega))) ?_
    refine wl_pure Tryz.hT rfl rfl rfl ?_
    refine wl_rem rfl rfl rfl rfl rfl (by omega) ?_
    refine wl_upd 92 (.int .i64 (x.fr f)) rfl (congrArg (Value.int .i64) (Int.tmod_eq_emod_of_nonneg (by omega))) ?_
    refine wl_pure Tryz.hT rfl rfl rfl ?_
    refine wl_nil ?_
    refine zE ?_
    refine zA ?_
    refine zB ?_
    iterate 2 refine wl_pure Tryz.hT rfl rfl rfl ?_
    refine wl_upd 94 (.int .i64 (x.fr f + 1)) rfl (congrArg (Value.int .i64) (w64_id (by omega) (by omega))) ?_
    refine wl_indexArr Tryz.underlying64 Tryz.sizeOf48 rfl rfl rfl rfl rfl ⟨by decide, by decide⟩ ?_
    refine wl_loadBx 5 Tryz.hT rfl rfl rfl rfl rfl rfl rfl rfl ?_
    refine wl_cvA Tryz.underlying48 Tryz.underlying3 rfl rfl rfl rfl ?_
    refine wl_upd 97 (.int .i64 f.2.1) rfl (congrArg (Value.int .i64) (w64_id (by omega) (by omega))) ?_
    refine wl_pure Tryz.hT rfl rfl rfl ?_
    refine wl_upd 98 (.int .i64 (f.2.1 + 128)) rfl (congrArg (Value.int .i64) (w64_id (by omega) (by omega))) ?_
    iterate 3 refine wl_pure Tryz.hT rfl rfl rfl ?_
    refine wl_upd 101 (.int .i64 ((x.n : Int) - x.fr f)) rfl (congrArg (Value.int .i64) (w64_id (by omega) (by omega))) ?_
    refine wl_rem rfl rfl rfl rfl rfl (by omega) ?_
    refine wl_upd 102 (.int .i64 ((f.2.1 + 128) % ((x.n : Int) - x.fr f))) rfl (congrArg (Value.int .i64) (Int.tmod_eq_emod_of_nonneg (by omega))) ?_
    refine wl_pure Tryz.hT rfl rfl rfl ?_
    have hto : x.to f = x.fr f + 1 + (f.2.1 + 128) % ((x.n : Int) - x.fr f) := rfl
    refine wl_upd 103 (.int .i64 (x.to f)) rfl (congrArg (Value.int .i64) (by rw [hto]; exact w64_id (by omega) (by omega))) ?_
    refine wl_pure Tryz.hT rfl rfl rfl ?_
    refine wl_nil ?_
    refine zE ?_
    refine wc_lateY (X := { V' : Vec // V'.OK 3 (j + 1) (spC (x.ssT (j + 1))) }) [true, true, true, true, true, true, true, true, true, true, true, false, false, false, false] (fun _ => [(1, selfP b1), (2, selfP b2), (4, .int .i64 (x.n : Nat)), (7, selfP b7), (81, .slice (some ⟨g, off, none⟩) k4 n), (82, .int .i64 (k4 : Nat)), (83, .int .i64 (j : Nat))])
      (fun V' => [smbB b1 x p (some ⟨g, off, none⟩) m n, bm0 b2, bmS b7 x (V.val i) (V'.1.val (j + 1)), V.bx 46 (foC (x.fsT i)), V'.1.bx 51 (spC (x.ssT (j + 1)))])
      4 [smbB b1 x p (some ⟨g, off, none⟩) m n, bm0 b2, bmS b7 x (V.val i) (U.val j), V.bx 46 (foC (x.fsT i)), U.bx 51 (spC (x.ssT j)), ⟨b11, 64, [.int .i8 f.1, .int .i8 f.2.1, .int .i8 f.2.2], true, none⟩] Tryz.mixed (by kernel_rfl) ?_ ?_
    · refine wq_pure Tryz.hT rfl rfl rfl ?_
      refine wq_loadBx 2 Tryz.hT rfl rfl rfl rfl rfl rfl rfl rfl ?_
      refine wq_pure Tryz.hT rfl rfl rfl ?_
      refine wq_call1 rfl rfl rfl rfl rfl rfl (by kernel_rfl) (fun W hp => bnum_gives (x.fr f) (by omega) W (ht.hp hp)) ?_
      refine wq_pure Tryz.hT rfl rfl rfl ?_
      refine wq_call1 rfl rfl rfl rfl rfl rfl (by kernel_rfl) (fun W hp => bnum_gives (x.to f) (by omega) W (ht.hp hp)) ?_
      refine wq_indexArr Tryz.underlying64 Tryz.sizeOf48 rfl rfl rfl rfl rfl ⟨by decide, by decide⟩ ?_
      refine wq_loadBx 5 Tryz.hT rfl rfl rfl rfl rfl rfl rfl rfl ?_
      refine wq_cvA Tryz.underlying48 Tryz.underlying3 rfl rfl rfl rfl ?_
      refine wq_upd 112 (.int .i64 f.2.2) rfl (congrArg (Value.int .i64) (w64_id (by omega) (by omega))) ?_
      refine wq_call1 rfl rfl rfl rfl rfl rfl (by kernel_rfl) (fun W hp => bnum_gives f.2.2 (by omega) W (ht.hp hp)) ?_
      refine wq_buildZ Tryz.hZ Tryz.hT rfl rfl rfl rfl rfl rfl rfl rfl ?_
      refine wq_wt ?_
      refine wt_step rfl rfl (by ((repeat (first | refine Weak.same ?_ | refine Weak.off rfl ?_)); exact trivial)) ?_
      refine RS.cons ?_ (RS.nil)
      refine wl_buildRowZ Tryz.hZ Tryz.hT rfl rfl rfl rfl rfl rfl rfl rfl rfl rfl rfl fun bN => ?_
      refine wl_nil ?_
      refine ne_wt ?_
      refine wt_step rfl rfl (by ((repeat (first | refine Weak.same ?_ | refine Weak.off rfl ?_)); exact trivial)) ?_
      refine RS.cons ?_ (RS.nil)
      refine wl_appendTo (V := U) (len := j) (xs := spC (x.ssT j)) 4 6 Tryz.vec29 (j + 1) (spC (x.ssT (j + 1))) rfl rfl rfl rfl rfl rfl rfl rfl rfl rfl rfl hU rfl rfl rfl (by rw [hsuc, spC_app]; rfl) (by simp only [maxLen]; omega) (by omega) rfl ?_; intro gV cV jV hV1
      refine wl_nil ?_
      refine ne_wt ?_
      refine wt_stepF rfl rfl (by kernel_rfl) ?_
      refine RS.cons ?_ (RS.nil)
      refine wl_pure Tryz.hT rfl rfl rfl ?_
      refine wl_nil ?_
      refine ne_wt ?_
      refine wt_stepF rfl rfl (by kernel_rfl) ?_
      refine RS.cons ?_ (RS.nil)
      refine wl_storeBx 2 Tryz.hT rfl rfl rfl rfl rfl rfl rfl rfl rfl rfl rfl ?_
      refine wl_nil ?_
      refine ne_wt ?_
      refine wt_doneF rfl (by kernel_rfl) ?_
      exact ne_late ⟨⟨some gV, cV, jV⟩, hV1⟩ ⟨rfl, rfl, rfl, rfl, rfl, rfl, rfl, trivial⟩ [0, 1, 2, 3, 4] (by decide) rfl
    intro V'
    refine zN ?_
    refine zE ?_
    refine zB ?_
    refine wl_pure Tryz.hT rfl rfl rfl ?_
    refine wl_upd 118 (.int .i64 ((j + 1 : Nat) : Int)) rfl (congrArg (Value.int .i64) (w64_succ (by omega))) ?_
    refine wl_pure Tryz.hT rfl rfl rfl ?_
    refine wl_nil ?_
    exact ne_loop (j + 1, V'.1) ⟨hlt, V'.2⟩ (by show k4 - (j + 1) < k4 - j; omega) ⟨rfl, rfl, rfl, rfl, rfl, rfl, rfl, trivial⟩ [] rfl
  have e : j = k4 := by omega
  subst e
  refine wl_upd 84 (.bool false) rfl (congrArg Value.bool (decide_eq_false (by omega))) ?_
  refine wl_nil ?_
  obtain ⟨VV, rfl, rfl⟩ : ∃ VV : BmV x.of, VV.f = V ∧ VV.s = U := by
    have e1 := x.fsT_all
    have e2 := x.ssT_all
    have l1 := x.len_fs
    have l2 := x.len_ss
    rw [← hk5] at e1 l1
    rw [← hk4] at e2 l2
    exact ⟨⟨V, U, by rw [l1, ← e1]; exact hV, by rw [l2, ← e2]; exact hU⟩, rfl, rfl⟩
  refine ne_bx (bxs' := [smbB b1 x p q m n, bm0 b2, bmB b7 x.of (vAdr VV.f) (vCap VV.f) (vAdr VV.s) (vCap VV.s), VV.bf, VV.bs]) (by
    have e1 := x.fsT_all
    have e2 := x.ssT_all
    have l1 := x.len_fs
    have l2 := x.len_ss
    rw [vec_val hV, vec_val hU]
    rw [← hk5] at e1 l1
    rw [← hk4] at e2 l2
    show [_, _, (⟨b7, 31, [_, _, _, .slice (vAdr VV.f) i (vCap VV.f), .slice (vAdr VV.s) j (vCap VV.s)], true, none⟩ : Bx), VV.f.bx 46 (foC (x.fsT i)), VV.s.bx 51 (spC (x.ssT j))] = [_, _, (⟨b7, 31, [_, _, _, .slice (vAdr VV.f) x.of.fs.length (vCap VV.f), .slice (vAdr VV.s) x.of.ss.length (vCap VV.s)], true, none⟩ : Bx), _, _]
    rw [e1, e2, l1, l2]
    rfl) ?_
  have hC := fit_check (SmB.hf hM.ok) x.lies
  refine zE ?_
  refine wc_seq ?_
  refine zS rfl ?_
  refine zJ ?_
  iterate 2 refine zK ?_
  refine zL ?_
  refine zE ?_
  refine wc_seq ?_
  refine wc_lateY (X := Unit) [true, true, true, true, false, false] (fun _ => [(2, selfP b2), (3, .bool true)]) (fun _ => [bmB b2 x.of (vAdr VV.f) (vCap VV.f) (vAdr VV.s) (vCap VV.s), VV.bf, VV.bs])
      2 [smbB b1 x p q m n, gone, bmB b7 x.of (vAdr VV.f) (vCap VV.f) (vAdr VV.s) (vCap VV.s), VV.bf, VV.bs] Tryz.mixed (by kernel_rfl) ?_ ?_
  · refine wq_loadBx 2 Tryz.hT rfl rfl rfl rfl rfl rfl rfl rfl ?_
    refine wq_loadBx 2 Tryz.hT rfl rfl rfl rfl rfl rfl rfl rfl ?_
    refine wq_call1 rfl rfl rfl rfl rfl rfl (by kernel_rfl) (fun W hp => bcheck_gives x.of hC (vAdr VV.f) (vAdr VV.s) (vCap VV.f) (vCap VV.s) W (VV.m 3 4 rfl rfl hp hv ht)) ?_
    refine wq_pure Tryz.hT rfl rfl rfl ?_
    refine wq_wt ?_
    refine wt_step rfl rfl (by ((repeat (first | refine Weak.same ?_ | refine Weak.off rfl ?_)); exact trivial)) ?_
    refine RS.cons ?_ (RS.nil)
    refine wl_storeBx 1 Tryz.hT rfl rfl rfl rfl rfl rfl rfl rfl rfl rfl rfl ?_
    refine wl_nil ?_
    refine ne_wt ?_
    refine wt_step rfl rfl (by ((repeat (first | refine Weak.same ?_ | refine Weak.off rfl ?_)); exact trivial)) ?_
    refine RS.cons ?_ (RS.nil)
    refine wl_pure Tryz.hT rfl rfl rfl ?_
    refine wl_nil ?_
    refine ne_wt ?_
    refine wt_done rfl (by ((repeat (first | refine Weak.same ?_ | refine Weak.off rfl ?_)); exact trivial)) ?_
    exact ne_late () ⟨rfl, rfl, trivial⟩ [1, 3, 4] (by decide) rfl
  intro _
  refine zE ?_
  refine zO ?_
  exact ne_ret2 Tryz.hT rfl (.cell 0 rfl rfl rfl rfl rfl) (.tmp rfl) VV rfl trivial fun W1 hp => NewBx.of_hp (hp.pick (l := [VV.bf, VV.bs]) [1, 2] (by decide) rfl)
end Go.Proofs.YtddadjbflgdomaaGreatDoor
namespace Go.Proofs.YtddadjbflgdomaaGreatDoor
open Go Go.RowKit Go.Am Go.Lib
set_option maxRecDepth 10000
-- BOXES 3
def T2 (n0 n1 : Nat) : Nat → Nat
  | 0 => 0
  | 1 => n0
  | _ => n0 + n1
def C2 (c0 c1 : List Value) : Nat → List Value
  | 0 => []
  | 1 => c0
  | _ => c0 ++ c1
set_option maxHeartbeats 4000000 in
theorem growN_gives (W : World) (m : Nat) (hm : m ≤ 1000000) : CallsR Tryz.prog 68 #[.slice none 0 0, .int .i64 (m : Nat)] W (fun V : Vec => V.val 0) (fun V => V.OK 1 0 [] ∧ (0 < m → V.p ≠ none)) (fun V => [V.bx 27 []]) := by
  refine calls_enter (args := [.slice none 0 0, .int .i64 (m : Nat)]) Tryz.func68 rfl rfl rfl ?_
  refine zA ?_
  refine zB ?_
  refine wl_pure Tryz.hT rfl rfl rfl ?_
  refine wl_nil ?_
  refine zE ?_
  iterate 2 refine zA ?_
  refine zB ?_
  iterate 2 refine wl_pure Tryz.hT rfl rfl rfl ?_
  refine wl_nil ?_
  refine zE ?_
  refine zS rfl ?_
  refine zI ?_
  refine zE ?_
  iterate 2 refine zA ?_
  refine zB ?_
  iterate 8 refine wl_pure Tryz.hT rfl rfl rfl ?_
  refine wl_nil ?_
  refine zE ?_
  refine zA ?_
  refine zB ?_
  iterate 2 refine wl_pure Tryz.hT rfl rfl rfl ?_
  refine wl_nil ?_
  refine zE ?_
  have e14 : w64 ((m : Int) - w64 (0 - 0)) = m := by
    have : w64 (0 - 0) = 0 := rfl
    rw [this]; exact (w64_id (by omega) (by omega)).trans (by omega)
  refine wc_upd 16 _ rfl (show Value.bool (decide (w64 ((m : Int) - w64 (0 - 0)) > 0)) = .bool (decide (0 < m)) by rw [e14]; congr 1; simp) ?_
  refine wc_cond rfl (fun h => ?_) (fun h => ?_)
  · have h : 0 < m := by simpa using h
    refine zB ?_
    iterate 3 refine wl_pure Tryz.hT rfl rfl rfl ?_
    refine wl_slice_h 0 Tryz.hT rfl rfl rfl rfl rfl rfl rfl rfl (Nat.le_refl _) ?_
    refine wl_pure Tryz.hT rfl rfl rfl ?_
    refine wl_appendZeros Tryz.vec66 (ku := .i64) (by kernel_rfl) m rfl rfl rfl rfl rfl rfl rfl rfl e14 h (by simp only [maxLen]; omega) (by omega) ?_
    intro V hV hp hj
    iterate 2 refine wl_pure Tryz.hT rfl rfl rfl ?_
    obtain ⟨p, cap, junk⟩ := V
    cases p with
    | none => exact absurd rfl hp
    | some g =>
    refine wl_slice_h (a := some ⟨g, 0, none⟩) (len := m) (cap := cap) 0 Tryz.hT rfl rfl rfl rfl rfl rfl rfl rfl (Nat.zero_le _) ?_
    refine wl_pure Tryz.hT rfl rfl rfl ?_
    refine wl_nil ?_
    refine zE ?_
    refine zA ?_
    refine zB ?_
    iterate 2 refine wl_pure Tryz.hT rfl rfl rfl ?_
    refine wl_nil ?_
    refine zE ?_
    refine zO ?_
    obtain ⟨h1, h2, h3⟩ := hV.cap (by simp)
    refine ne_ret1 Tryz.hT rfl (.tmp rfl) (⟨some g, cap, repL [.string ⟨#[]⟩] m ++ junk⟩ : Vec) rfl ⟨⟨rfl, (fun h => by cases h), fun _ => ⟨Nat.zero_le _, h2, ?_⟩⟩, fun _ => by simp⟩ fun W hp => NewBx.of_hp1 hp 0 rfl
    show 0 + (repL _ m ++ junk).length = cap * 1
    rw [List.length_append, Nat.zero_add]
    exact h3
  · have h : m = 0 := by simp at h; omega
    subst h
    refine zI ?_
    refine zE ?_
    refine zA ?_
    refine zB ?_
    iterate 2 refine wl_pure Tryz.hT rfl rfl rfl ?_
    refine wl_nil ?_
    refine zE ?_
    refine zO ?_
    exact ne_ret1 Tryz.hT rfl (.tmp rfl) Vec.empty rfl ⟨Vec.OK.empty 1, fun h => absurd h (Nat.lt_irrefl _)⟩ fun W hp => Own.one (fun p hp => by cases hp) List.nodup_nil
set_option maxHeartbeats 8000000 in
theorem concatN_gives (W : World) (b cap : Nat) (p0 p1 : Option Addr) (n0 n1 k0 k1 : Nat) (c0 c1 : List Value) (hrow : RowAt W b 0 [.slice p0 n0 k0, .slice p1 n1 k1]) (h0 : CellsP W p0 c0) (h1 : CellsP W p1 c1) (l0 : c0.length = n0 * 1) (l1 : c1.length = n1 * 1)
    (o0 : ∀ u ∈ c0, u.oneCell' = true) (o1 : ∀ u ∈ c1, u.oneCell' = true) (b0 : n0 ≤ 100000) (b1 : n1 ≤ 100000) :
    CallsR Tryz.prog 33 #[.slice (some ⟨b, 0, none⟩) 2 cap] W (fun V : Vec => V.val (n0 + n1)) (fun V => V.OK 1 (n0 + n1) (c0 ++ c1)) (fun V => [V.bx 27 (c0 ++ c1)]) := by
  refine calls_enter (args := [.slice (some ⟨b, 0, none⟩) 2 cap]) Tryz.func33 rfl rfl rfl ?_
  refine zA ?_
  refine zB ?_
  refine wl_pure Tryz.hT rfl rfl rfl ?_
  refine wl_nil ?_
  refine zE ?_
  refine zA ?_
  refine zB ?_
  refine wl_pure Tryz.hT rfl rfl rfl ?_
  refine wl_nil ?_
  refine zE ?_
  iterate 2 refine zA ?_
  refine zB ?_
  iterate 3 refine wl_pure Tryz.hT rfl rfl rfl ?_
  refine wl_nil ?_
  refine zE ?_
  refine zH ?_
  refine wc_loop (X := Nat) (fun k => [(0, .slice (some ⟨b, 0, none⟩) 2 cap), (3, .int .i64 (T2 n0 n1 k : Nat)), (9, .slice (some ⟨b, 0, none⟩) 2 cap), (10, .int .i64 2), (11, .int .i64 (k : Nat))]) (fun _ => [])
    (fun k => k ≤ 2) (fun k => 2 - k) 0 (Nat.zero_le _) ⟨rfl, rfl, rfl, rfl, rfl, trivial⟩ [] rfl ?_
  intro i hi
  have hi : i = 0 ∨ i = 1 ∨ i = 2 := by have : i ≤ 2 := hi; omega
  rcases hi with rfl | rfl | rfl
  · refine zA ?_
    refine zB ?_
    refine wl_pure Tryz.hT rfl rfl rfl ?_
    refine wl_nil ?_
    refine zE ?_
    refine zA ?_
    refine zR rfl ?_
    refine zI ?_
    refine zE ?_
    refine zA ?_
    refine zH ?_
    refine zA ?_
    refine zB ?_
    refine wl_indexAddr Tryz.hT rfl rfl rfl rfl rfl rfl rfl (by omega) (by omega) ?_
    refine wl_load rfl rfl rfl rfl (fun W hp => RowAt.load 0 Tryz.hT rfl ((fun W hp => hrow.hp hp) W hp) rfl) ?_
    refine wl_pure Tryz.hT rfl rfl rfl ?_
    refine wl_nil ?_
    refine zE ?_
    refine zA ?_
    refine zB ?_
    iterate 4 refine wl_pure Tryz.hT rfl rfl rfl ?_
    refine wl_upd 18 (.int .i64 (T2 n0 n1 1 : Nat)) rfl (congrArg (Value.int .i64) (show w64 ((T2 n0 n1 0 : Nat) + (n0 : Nat)) = (T2 n0 n1 1 : Nat) by have hT0 : T2 n0 n1 0 = 0 := rfl; have hT1 : T2 n0 n1 1 = n0 := rfl; rw [w64_id (by omega) (by omega)]; omega)) ?_
    refine wl_pure Tryz.hT rfl rfl rfl ?_
    refine wl_nil ?_
    refine zE ?_
    refine zA ?_
    refine zB ?_
    iterate 2 refine wl_pure Tryz.hT rfl rfl rfl ?_
    refine wl_nil ?_
    refine zE ?_
    refine zS rfl ?_
    refine zI ?_
    refine zN ?_
    refine zE ?_
    refine zB ?_
    iterate 2 refine wl_pure Tryz.hT rfl rfl rfl ?_
    refine wl_nil ?_
    exact ne_loop 1 (by decide) (by decide) ⟨rfl, rfl, rfl, rfl, rfl, trivial⟩ [] rfl
  · refine zA ?_
    refine zB ?_
    refine wl_pure Tryz.hT rfl rfl rfl ?_
    refine wl_nil ?_
    refine zE ?_
    refine zA ?_
    refine zR rfl ?_
    refine zI ?_
    refine zE ?_
    refine zA ?_
    refine zH ?_
    refine zA ?_
    refine zB ?_
    refine wl_indexAddr Tryz.hT rfl rfl rfl rfl rfl rfl rfl (by omega) (by omega) ?_
    refine wl_load rfl rfl rfl rfl (fun W hp => RowAt.load 1 Tryz.hT rfl ((fun W hp => hrow.hp hp) W hp) rfl) ?_
    refine wl_pure Tryz.hT rfl rfl rfl ?_
    refine wl_nil ?_
    refine zE ?_
    refine zA ?_
    refine zB ?_
    iterate 4 refine wl_pure Tryz.hT rfl rfl rfl ?_
    refine wl_upd 18 (.int .i64 (T2 n0 n1 2 : Nat)) rfl (congrArg (Value.int .i64) (show w64 ((T2 n0 n1 1 : Nat) + (n1 : Nat)) = (T2 n0 n1 2 : Nat) by have hT0 : T2 n0 n1 1 = n0 := rfl; have hT1 : T2 n0 n1 2 = n0 + n1 := rfl; rw [w64_id (by omega) (by omega)]; omega)) ?_
    refine wl_pure Tryz.hT rfl rfl rfl ?_
    refine wl_nil ?_
    refine zE ?_
    refine zA ?_
    refine zB ?_
    iterate 2 refine wl_pure Tryz.hT rfl rfl rfl ?_
    refine wl_nil ?_
    refine zE ?_
    refine zS rfl ?_
    refine zI ?_
    refine zN ?_
    refine zE ?_
    refine zB ?_
    iterate 2 refine wl_pure Tryz.hT rfl rfl rfl ?_
    refine wl_nil ?_
    exact ne_loop 2 (by decide) (by decide) ⟨rfl, rfl, rfl, rfl, rfl, trivial⟩ [] rfl
  refine zA ?_
  refine zB ?_
  refine wl_pure Tryz.hT rfl rfl rfl ?_
  refine wl_nil ?_
  refine zE ?_
  refine zA ?_
  refine zS rfl ?_
  refine zJ ?_
  iterate 2 refine zK ?_
  refine zL ?_
  refine zE ?_
  refine zA ?_
  refine zB ?_
  refine wl_pure Tryz.hT rfl rfl rfl ?_
  refine wl_call (X := Vec) rfl rfl rfl rfl rfl rfl (by kernel_rfl) (fun W _ => growN_gives W (n0 + n1) (by omega)) ?_
  rintro V0 ⟨hV0, hV0p⟩
  refine wl_pure Tryz.hT rfl rfl rfl ?_
  refine wl_nil ?_
  refine zE ?_
  iterate 2 refine zA ?_
  refine zB ?_
  iterate 3 refine wl_pure Tryz.hT rfl rfl rfl ?_
  refine wl_nil ?_
  refine zE ?_
  refine zH ?_
  refine wc_loop (X := Nat × Vec) (fun x => [(6, x.2.val (T2 n0 n1 x.1)), (25, .slice (some ⟨b, 0, none⟩) 2 cap), (26, .int .i64 2), (27, .int .i64 (x.1 : Nat))]) (fun x => [x.2.bx 27 (C2 c0 c1 x.1)])
    (fun x => x.1 ≤ 2 ∧ x.2.OK 1 (T2 n0 n1 x.1) (C2 c0 c1 x.1)) (fun x => 2 - x.1) (0, V0) ⟨Nat.zero_le _, hV0⟩ ⟨rfl, rfl, rfl, rfl, trivial⟩ [] rfl ?_
  rintro ⟨i, V⟩ ⟨hi, hV⟩
  have hi : i = 0 ∨ i = 1 ∨ i = 2 := by have : i ≤ 2 := hi; omega
  rcases hi with rfl | rfl | rfl
  · have hV : V.OK 1 (T2 n0 n1 0) (C2 c0 c1 0) := hV
    have hT0 : T2 n0 n1 0 = 0 := rfl
    have hT1 : T2 n0 n1 1 = n0 := rfl
    refine zA ?_
    refine zB ?_
    refine wl_pure Tryz.hT rfl rfl rfl ?_
    refine wl_nil ?_
    refine zE ?_
    refine zA ?_
    refine zR rfl ?_
    refine zI ?_
    refine zE ?_
    refine zA ?_
    refine zH ?_
    refine zA ?_
    refine zB ?_
    refine wl_indexAddr Tryz.hT rfl rfl rfl rfl rfl rfl rfl (by omega) (by omega) ?_
    refine wl_load rfl rfl rfl rfl (fun W hp => RowAt.load 0 Tryz.hT rfl ((fun W hp => hrow.hp hp) W hp) rfl) ?_
    refine wl_pure Tryz.hT rfl rfl rfl ?_
    refine wl_nil ?_
    refine zE ?_
    refine zB ?_
    iterate 2 refine wl_pure Tryz.hT rfl rfl rfl ?_
    cases p0 with
    | none =>
      have hc := h0.none
      have hn0 : n0 = 0 := by rw [hc, List.length_nil] at l0; omega
      refine wl_upd 31 (.slice (vAdr V) (T2 n0 n1 0) (vCap V)) rfl (vec_val hV) ?_
      refine wl_upd 32 (.slice none 0 k0) rfl (by rw [hn0]) ?_
      refine wl_appendNil Tryz.vec66 rfl rfl rfl rfl rfl rfl rfl rfl (vec_le hV) ?_
      refine wl_upd 33 (V.val (T2 n0 n1 0)) rfl (vec_val hV).symm ?_
      have eT : T2 n0 n1 0 = T2 n0 n1 1 := by omega
      have eC : C2 c0 c1 0 = C2 c0 c1 1 := by show [] = c0; rw [hc]
      rw [eT, eC] at hV
      rw [eT, eC]
      refine wl_pure Tryz.hT rfl rfl rfl ?_
      refine wl_nil ?_
      refine zN ?_
      refine zE ?_
      refine zB ?_
      iterate 2 refine wl_pure Tryz.hT rfl rfl rfl ?_
      refine wl_nil ?_
      exact ne_loop (1, V) ⟨by show 1 ≤ 2; decide, hV⟩ (by show 2 - 1 < 2 - 0; decide) ⟨rfl, rfl, rfl, rfl, trivial⟩ [] rfl
    | some a =>
      refine wl_append (len := T2 n0 n1 0) (V := V) 0 Tryz.vec66 rfl rfl rfl rfl rfl rfl rfl rfl rfl hV l0 (fun W hp j u hj => ?_) o0 (by simp only [maxLen]; omega) (by omega) ?_
      · obtain ⟨ab, ao, asp⟩ := a
        rcases h0 with h | ⟨b', off', e, h⟩
        · rw [h] at hj; simp at hj
        · cases e
          rw [Addr.add_none]
          exact (h.hp hp).get j u hj
      intro V' hV' _
      have eT : T2 n0 n1 0 + n0 = T2 n0 n1 1 := by omega
      have eC : C2 c0 c1 0 ++ c0 = C2 c0 c1 1 := rfl
      rw [eT, eC] at hV'
      rw [eT, eC]
      refine wl_pure Tryz.hT rfl rfl rfl ?_
      refine wl_nil ?_
      refine zN ?_
      refine zE ?_
      refine zB ?_
      iterate 2 refine wl_pure Tryz.hT rfl rfl rfl ?_
      refine wl_nil ?_
      exact ne_loop (1, V') ⟨by show 1 ≤ 2; decide, hV'⟩ (by show 2 - 1 < 2 - 0; decide) ⟨rfl, rfl, rfl, rfl, trivial⟩ [] rfl
  · have hV : V.OK 1 (T2 n0 n1 1) (C2 c0 c1 1) := hV
    have hT0 : T2 n0 n1 1 = n0 := rfl
    have hT1 : T2 n0 n1 2 = n0 + n1 := rfl
    refine zA ?_
    refine zB ?_
    refine wl_pure Tryz.hT rfl rfl rfl ?_
    refine wl_nil ?_
    refine zE ?_
    refine zA ?_
    refine zR rfl ?_
    refine zI ?_
    refine zE ?_
    refine zA ?_
    refine zH ?_
    refine zA ?_
    refine zB ?_
    refine wl_indexAddr Tryz.hT rfl rfl rfl rfl rfl rfl rfl (by omega) (by omega) ?_
    refine wl_load rfl rfl rfl rfl (fun W hp => RowAt.load 1 Tryz.hT rfl ((fun W hp => hrow.hp hp) W hp) rfl) ?_
    refine wl_pure Tryz.hT rfl rfl rfl ?_
    refine wl_nil ?_
    refine zE ?_
    refine zB ?_
    iterate 2 refine wl_pure Tryz.hT rfl rfl rfl ?_
    cases p1 with
    | none =>
      have hc := h1.none
      have hn0 : n1 = 0 := by rw [hc, List.length_nil] at l1; omega
      refine wl_upd 31 (.slice (vAdr V) (T2 n0 n1 1) (vCap V)) rfl (vec_val hV) ?_
      refine wl_upd 32 (.slice none 0 k1) rfl (by rw [hn0]) ?_
      refine wl_appendNil Tryz.vec66 rfl rfl rfl rfl rfl rfl rfl rfl (vec_le hV) ?_
      refine wl_upd 33 (V.val (T2 n0 n1 1)) rfl (vec_val hV).symm ?_
      have eT : T2 n0 n1 1 = T2 n0 n1 2 := by omega
      have eC : C2 c0 c1 1 = C2 c0 c1 2 := by show c0 = c0 ++ c1; rw [hc]; simp
      rw [eT, eC] at hV
      rw [eT, eC]
      refine wl_pure Tryz.hT rfl rfl rfl ?_
      refine wl_nil ?_
      refine zN ?_
      refine zE ?_
      refine zB ?_
      iterate 2 refine wl_pure Tryz.hT rfl rfl rfl ?_
      refine wl_nil ?_
      exact ne_loop (2, V) ⟨by show 2 ≤ 2; decide, hV⟩ (by show 2 - 2 < 2 - 1; decide) ⟨rfl, rfl, rfl, rfl, trivial⟩ [] rfl
    | some a =>
      refine wl_append (len := T2 n0 n1 1) (V := V) 0 Tryz.vec66 rfl rfl rfl rfl rfl rfl rfl rfl rfl hV l1 (fun W hp j u hj => ?_) o1 (by simp only [maxLen]; omega) (by omega) ?_
      · obtain ⟨ab, ao, asp⟩ := a
        rcases h1 with h | ⟨b', off', e, h⟩
        · rw [h] at hj; simp at hj
        · cases e
          rw [Addr.add_none]
          exact (h.hp hp).get j u hj
      intro V' hV' _
      have eT : T2 n0 n1 1 + n1 = T2 n0 n1 2 := by omega
      have eC : C2 c0 c1 1 ++ c1 = C2 c0 c1 2 := rfl
      rw [eT, eC] at hV'
      rw [eT, eC]
      refine wl_pure Tryz.hT rfl rfl rfl ?_
      refine wl_nil ?_
      refine zN ?_
      refine zE ?_
      refine zB ?_
      iterate 2 refine wl_pure Tryz.hT rfl rfl rfl ?_
      refine wl_nil ?_
      exact ne_loop (2, V') ⟨by show 2 ≤ 2; decide, hV'⟩ (by show 2 - 2 < 2 - 1; decide) ⟨rfl, rfl, rfl, rfl, trivial⟩ [] rfl
  refine zA ?_
  refine zB ?_
  refine wl_pure Tryz.hT rfl rfl rfl ?_
  refine wl_nil ?_
  refine zE ?_
  refine zA ?_
  refine zS rfl ?_
  refine zJ ?_
  iterate 2 refine zK ?_
  refine zL ?_
  refine zE ?_
  refine zA ?_
  refine zB ?_
  iterate 2 refine wl_pure Tryz.hT rfl rfl rfl ?_
  refine wl_nil ?_
  refine zE ?_
  refine zO ?_
  exact ne_ret1 Tryz.hT rfl (.tmp rfl) V rfl hV fun W hp => NewBx.of_hp1 hp 0 rfl
end Go.Proofs.YtddadjbflgdomaaGreatDoor
namespace Go.Proofs.YtddadjbflgdomaaGreatDoor
/-- All weights of a beam. -/
def BmP.all (b : BmP) : List (Rat × Rat) := b.fs ++ b.ss.map fun s => ((s.1 + s.2.1) / 2, s.2.2 * (s.2.1 - s.1))
end Go.Proofs.YtddadjbflgdomaaGreatDoor
namespace Go.Proofs.YtddadjbflgdomaaGreatDoor
/-- A place lies outside of an open piece. -/
def Out (p q c : Rat) : Prop := c ≤ p ∨ q ≤ c
structure BmP.Pc (b : BmP) (p q : Rat) : Prop where
  l : Out p q b.l
  r : Out p q b.r
  f : ∀ f ∈ b.fs, Out p q f.1
  s1 : ∀ s ∈ b.ss, Out p q s.1
  s2 : ∀ s ∈ b.ss, Out p q s.2.1
/-- The load on a piece. -/
def ldAt (p q : Rat) : List (Rat × Rat × Rat) → Rat
  | [] => 0
  | s :: l => (if s.1 ≤ p ∧ q ≤ s.2.1 then s.2.2 else 0) + ldAt p q l
end Go.Proofs.YtddadjbflgdomaaGreatDoor
namespace Go.Proofs.YtddadjbflgdomaaGreatDoor
/-- Where something changes. -/
def BmP.chg (b : BmP) : List Rat := compQ (sortQ ([0, b.len, b.l, b.r] ++ b.fs.map (fun f => f.1) ++ b.ss.flatMap fun s => [s.1, s.2.1]))
/-- Where the shear force is 0 between two changes. -/
def BmP.zero1 (b : BmP) (p q : Rat) : List Rat := if ldAt p q b.ss = 0 then [] else if p < p + b.shear p / ldAt p q b.ss ∧ p + b.shear p / ldAt p q b.ss < q then [p + b.shear p / ldAt p q b.ss] else []
def BmP.zeros (b : BmP) : List Rat → List Rat
  | p :: q :: l => b.zero1 p q ++ b.zeros (q :: l)
  | _ => []
def bestQ (m : Rat → Rat) : Rat → List Rat → Rat
  | w, [] => w
  | w, x :: l => bestQ m (if m w < m x then x else w) l
def BmP.places (b : BmP) : List Rat := sortQ (b.chg ++ b.zeros b.chg)
/-- The least place of the greatest moment. -/
def BmP.where_ (b : BmP) : Rat := match b.places with
  | [] => 0
  | a :: l => bestQ b.moment a l
theorem mem_chg {b : BmP} {y : Rat} : y ∈ b.chg ↔ y = 0 ∨ y = b.len ∨ y = b.l ∨ y = b.r ∨ (∃ f ∈ b.fs, y = f.1) ∨ (∃ s ∈ b.ss, y = s.1 ∨ y = s.2.1) := by
  unfold BmP.chg
  rw [mem_compQ, mem_sortQ]
  simp only [List.mem_append, List.mem_cons, List.not_mem_nil, or_false, List.mem_map, List.mem_flatMap, or_assoc]
  constructor
  · rintro (h | h | h | h | ⟨f, hf, rfl⟩ | ⟨s, hs, h⟩)
    · exact .inl h
    · exact .inr (.inl h)
    · exact .inr (.inr (.inl h))
    · exact .inr (.inr (.inr (.inl h)))
    · exact .inr (.inr (.inr (.inr (.inl ⟨f, hf, rfl⟩))))
    · exact .inr (.inr (.inr (.inr (.inr ⟨s, hs, h⟩))))
  · rintro (h | h | h | h | ⟨f, hf, rfl⟩ | ⟨s, hs, h⟩)
    · exact .inl h
    · exact .inr (.inl h)
    · exact .inr (.inr (.inl h))
    · exact .inr (.inr (.inr (.inl h)))
    · exact .inr (.inr (.inr (.inr (.inl ⟨f, hf, rfl⟩))))
    · exact .inr (.inr (.inr (.inr (.inr ⟨s, hs, h⟩))))
end Go.Proofs.YtddadjbflgdomaaGreatDoor
namespace Go.Proofs.YtddadjbflgdomaaGreatDoor
theorem zeros_in (b : BmP) {z : Rat} : ∀ (c : List Rat), z ∈ b.zeros c → ∃ p ∈ c, ∃ q ∈ c, p < z ∧ z < q
  | [], h => by cases h
  | [a], h => by cases h
  | p :: q :: l, h => by
    have h : z ∈ b.zero1 p q ++ b.zeros (q :: l) := h
    rcases List.mem_append.1 h with h | h
    · unfold BmP.zero1 at h
      split at h
      · cases h
      · split at h
        · rename_i hk
          obtain rfl := List.mem_singleton.1 h
          exact ⟨p, List.mem_cons_self .., q, List.mem_cons_of_mem _ (List.mem_cons_self ..), hk.1, hk.2⟩
        · cases h
    · obtain ⟨u, hu, v, hv, h1⟩ := zeros_in b (q :: l) h
      exact ⟨u, List.mem_cons_of_mem _ hu, v, List.mem_cons_of_mem _ hv, h1⟩
theorem chg_in {b : BmP} (h : b.Lies) {y : Rat} (hy : y ∈ b.chg) : 0 ≤ y ∧ y ≤ b.len := by
  have a1 := h.len; have a2 := h.l0; have a3 := h.lr; have a4 := h.r1
  rcases mem_chg.1 hy with rfl | rfl | rfl | rfl | ⟨f, hf, rfl⟩ | ⟨s, hs, rfl | rfl⟩
  · exact ⟨Rat.le_refl, Rat.le_of_lt a1⟩
  · exact ⟨Rat.le_of_lt a1, Rat.le_refl⟩
  · exact ⟨a2, by grind⟩
  · exact ⟨by grind, a4⟩
  · exact ⟨h.f0 f hf, h.f1 f hf⟩
  · have b1 := h.s0 s hs; have b2 := h.s1 s hs; have b3 := h.s2 s hs
    exact ⟨b1, by grind⟩
  · have b1 := h.s0 s hs; have b2 := h.s1 s hs; have b3 := h.s2 s hs
    exact ⟨by grind, b3⟩
end Go.Proofs.YtddadjbflgdomaaGreatDoor
namespace Go.Proofs.YtddadjbflgdomaaGreatDoor
open Go Go.RowKit Go.Am Go.Lib
set_option maxRecDepth 10000
-- BOXES 3
abbrev cs (l : List (List UInt8)) : List Value := l.map Go.Proofs.encStr
theorem cs_get {l : List (List UInt8)} {j : Nat} (h : j < l.length) (junk : List Value) : (cs l ++ junk)[j]? = some (Go.Proofs.encStr l.toArray[j]!) := by
  rw [List.getElem?_append_left (by simpa using h), List.getElem?_map, List.getElem?_eq_getElem h, getElem!_pos l.toArray j (by simpa using h)]; simp
theorem cs_holds {W : World} {g : Nat} {zs : List (List UInt8)} {junk : List Value} {ty : TypeId} (h : W.heap[g]? = some (.cells (cs zs ++ junk).toArray ty (0, 0))) : Sort.Holds Go.Proofs.encStr W g 0 zs.toArray := fun j hj => by
  have hj' : j < zs.length := by simpa using hj
  have h1 := cs_get hj' junk
  constructor
  · simp only [World.cell?, h, Nat.zero_add]
    rw [List.getElem?_toArray]; exact h1
  · simp [World.frozen?, h]
theorem putCells_cs {zs zs' : List (List UInt8)} (hl : zs'.length = zs.length) (junk : List Value) : Sort.putCells Go.Proofs.encStr 0 zs'.toArray (cs zs ++ junk).toArray = (cs zs' ++ junk).toArray := by
  apply Array.ext_getElem?
  intro k
  simp only [Sort.putCells, Array.getElem?_mapIdx, List.getElem?_toArray, List.size_toArray, Nat.zero_add, Nat.sub_zero, Nat.zero_le, true_and]
  by_cases hk : k < zs.length
  · rw [cs_get hk, cs_get (show k < zs'.length by omega), Option.map_some, if_pos (by omega)]
  · rw [List.getElem?_append_right (by simp; omega), List.getElem?_append_right (by simp; omega)]
    simp only [List.length_map, hl]
    cases junk[k - zs.length]? with
    | none => rfl
    | some y => rw [Option.map_some, if_neg (by omega)]
theorem putCs_near {W : World} {g : Nat} {zs zs' : List (List UInt8)} {junk : List Value} {ty : TypeId} (h : W.heap[g]? = some (.cells (cs zs ++ junk).toArray ty (0, 0))) (hl : zs'.length = zs.length) (n : Nat) :
    Near W (Sort.putRow Go.Proofs.encStr (Sort.ahead W n) g 0 zs'.toArray) g g (.cells (cs zs' ++ junk).toArray ty (0, 0)) := by
  have hlt : g < W.heap.size := (Array.getElem?_eq_some_iff.1 h).1
  have hs : ∀ x, x < W.heap.size → (Sort.putRow Go.Proofs.encStr (Sort.ahead W n) g 0 zs'.toArray).heap[x]? = (W.heap.modify g (Sort.onCells (Sort.putCells Go.Proofs.encStr 0 zs'.toArray)))[x]? := fun x hx => rfl
  refine ⟨rfl, rfl, rfl, ?_, ?_, .inl rfl, fun x hx hlt' => ?_⟩
  · show W.heap.size ≤ (W.heap.modify g _).size
    simp
  · rw [hs g hlt, Array.getElem?_modify, if_pos rfl, h, Option.map_some]
    show some (Obj.cells (Sort.putCells _ _ _ _) _ _) = _
    rw [putCells_cs hl]
  · rw [hs x hlt', Array.getElem?_modify, if_neg (fun e => hx e.symm)]
theorem compQ_len (l : List Rat) : (compQ l).length ≤ l.length := by
  fun_induction compQ l with
  | case1 => exact Nat.le_refl _
  | case2 x => exact Nat.le_refl _
  | case3 x l ih => simp only [List.length_cons] at ih ⊢; omega
  | case4 x y l h ih => simp only [List.length_cons] at ih ⊢; omega
theorem cs_nS (l : List Rat) : cs (l.map numS) = nS l := by simp [nS, cs]
/-- What lies behind the kept ones. -/
abbrev compJ (l : List Rat) (junk : List Value) : List Value := cs (List.replicate (l.length - (compQ l).length) []) ++ junk
theorem compN_gives {W : World} {g cap : Nat} {l : List Rat} {junk : List Value} {ty : TypeId} (h : W.heap[g]? = some (.cells (nS l ++ junk).toArray ty (0, 0))) (hn : l.length ≤ 9223372036854775807) (hcap : l.length ≤ cap) :
    Calls Tryz.prog 65 #[.slice (some ⟨g, 0, none⟩) l.length cap] W fun e W' => ∃ x : Unit, e = .returned ((fun _ => .slice (some ⟨g, 0, none⟩) (compQ l).length cap) x) ∧ True ∧
      Near W W' g ((fun _ => g) x) ((fun _ => .cells (nS (compQ l) ++ compJ l junk).toArray ty (0, 0)) x) := by
  have hl := compQ_len l
  rw [← cs_nS] at h
  have h1 := Go.Proofs.AnyG.slices_Compact_string (P := Tryz.prog) (ρ := Tryz.laysN44_ren) Tryz.laysN44 g 0 cap (l.map numS) W (cs_holds h) (by rw [List.length_map]; exact hn) (by rw [List.length_map]; exact hcap)
  rw [compact_comp, List.length_map, List.length_map] at h1
  refine h1.mono ?_
  rintro e W' ⟨rfl, n, rfl⟩
  refine ⟨(), rfl, trivial, ?_⟩
  have h2 := putCs_near (zs' := (compQ l).map numS ++ List.replicate (l.length - (compQ l).length) []) h (by rw [List.length_append, List.length_replicate, List.length_map, List.length_map]; omega) n
  have e : cs ((compQ l).map numS ++ List.replicate (l.length - (compQ l).length) []) ++ junk = nS (compQ l) ++ compJ l junk := by
    rw [← cs_nS, ← List.append_assoc]; congr 1; exact List.map_append
  rw [e] at h2
  exact h2
theorem sort0_gives (cf : Nat) (W : World) (p : Option Addr) (cap : Nat) : CallsR Tryz.prog 34 #[.slice p 0 cap, .func (.func cf) #[] #[]] W (fun _ : Unit => .tuple #[]) (fun _ => True) (fun _ => []) := by
  refine calls_enter (args := [.slice p 0 cap, .func (.func cf) #[] #[]]) Tryz.func34 rfl rfl rfl ?_
  refine zA ?_
  refine zB ?_
  iterate 3 refine wl_pure Tryz.hT rfl rfl rfl ?_
  refine wl_nil ?_
  refine zE ?_
  refine zB ?_
  iterate 3 refine wl_pure Tryz.hT rfl rfl rfl ?_
  refine wl_cvA (k := .u64) (kt := .i64) (by kernel_rfl) (by kernel_rfl) rfl rfl rfl rfl ?_
  refine wl_upd 10 (.int .u64 ((0 : Nat) : Int)) rfl rfl ?_
  refine wl_call1 (capt := []) rfl rfl rfl rfl rfl rfl (by kernel_rfl) (fun W _ => bitLen_gives 0 (by omega) W) ?_
  refine wl_pure Tryz.hT rfl rfl rfl ?_
  refine wl_call1 (capt := []) rfl rfl rfl rfl rfl rfl (by kernel_rfl) (fun W _ => pdq0_gives cf W p cap _) ?_
  refine wl_nil ?_
  exact ne_end0 (X := Unit) (val := fun _ => .tuple #[]) (Φ := fun _ => True) (nb := fun _ => []) (fn := Tryz.f34) Tryz.hT rfl () rfl trivial fun W _ => NewBx.nil _ _
theorem comp0_gives (W : World) (p : Option Addr) (cap : Nat) : CallsR Tryz.prog 65 #[.slice p 0 cap] W (fun _ : Unit => .slice p 0 cap) (fun _ => True) (fun _ => []) := by
  refine calls_enter (args := [.slice p 0 cap]) Tryz.func65 rfl rfl rfl ?_
  refine zA ?_
  refine zB ?_
  refine wl_pure Tryz.hT rfl rfl rfl ?_
  refine wl_nil ?_
  refine zE ?_
  iterate 2 refine zA ?_
  refine zB ?_
  iterate 3 refine wl_pure Tryz.hT rfl rfl rfl ?_
  refine wl_nil ?_
  refine zE ?_
  refine zR rfl ?_
  refine zA ?_
  refine zB ?_
  iterate 2 refine wl_pure Tryz.hT rfl rfl rfl ?_
  refine wl_nil ?_
  refine zE ?_
  refine zO ?_
  refine zP ?_
  exact ne_ret1 Tryz.hT rfl (.tmp rfl) () rfl trivial fun W _ => NewBx.nil _ _
theorem set_same_get {α : Type} {l : List α} {k : Nat} {x : α} (h : l[k]? = some x) : l.set k x = l := by
  obtain ⟨h1, rfl⟩ := List.getElem?_eq_some_iff.1 h
  exact List.set_getElem_self h1
section
variable {r : Option Nat} {n : Nat} {W0 : World} {N : Nat} {D : List Deferred} {ops : List Oper} {Q : Exit → Act → World → Prop} {o : Oper} {rest : List Oper} {env : Env} {bxs : List Bx}
/-- slices.SortFunc of numbers that were appended (none of them, perhaps). -/
theorem wl_sortQ (k : Nat) (cf : Nat) (hcf : CmpOK cf) (hv0 : MaxP W0) (ht0 : TabP W0) {c : Call} {f : Operand} {d : Nat} {V : Vec} {l : List Rat} {len : Nat}
    (hg : guardE ops N env o = some true) (hd : o.dst = some d) (ho : o.op = .call c) (hc : c.callee = .value f) (hf : evO N env f = some (.func (.func 34) #[] #[])) (ha : evArgs (evO N env) c.args.toList = some [V.val len, .func (.func cf) #[] #[]])
    (hk : nth bxs k = some (V.bx 27 (nS l))) (hlen : len = l.length) (hV : V.OK 1 len (nS l)) (hn : l.length ≤ 12) (hz : ∀ p ∈ l, ∀ q ∈ l, Sz2 p q)
    (h : WL r n Tryz.prog N D ops Q rest ((d, .tuple #[]) :: env) (Hp W0 (bxs.set k (V.bx 27 (nS (sortQ l)))))) : WL r n Tryz.prog N D ops Q (o :: rest) env (Hp W0 bxs) := by
  subst hlen
  obtain ⟨p, cap, junk⟩ := V
  cases p with
  | none =>
    have hz0 := hV.nil rfl
    have e : bxs.set k ((⟨none, cap, junk⟩ : Vec).bx 27 (nS (sortQ l))) = bxs := by
      have h1 : bxs[k]? = some ((⟨none, cap, junk⟩ : Vec).bx 27 (nS l)) := by rw [← nth_eq]; exact hk
      exact set_same_get h1
    rw [e] at h
    refine wl_call1 (capt := []) hg hd ho hc hf ha (by kernel_rfl) (fun W _ => ?_) h
    exact sort0_gives cf W none 0
  | some g =>
    have hk' : bxs[k]? = some (rowQ g l junk) := by rw [← nth_eq]; exact hk
    refine wl_callN (X := Unit) (val := fun _ => .tuple #[]) (Φ := fun _ => True) (capt := []) k (B := rowQ g l junk) (L1 := []) (L2 := []) (b := g) (ob := .cells (nS l ++ junk).toArray 27 (0, 0)) (fun _ => rowQ g (sortQ l) junk) (g' := fun _ => g) (o' := fun _ => .cells (nS (sortQ l) ++ junk).toArray 27 (0, 0))
      hg hd ho hc hf ha (by kernel_rfl) hk rfl (fun _ _ => rfl) (fun W hp => ?_) (fun _ _ => h)
    have hcell := hp.own.cell k _ hk' (g, .cells (nS l ++ junk).toArray 27 (0, 0)) (List.mem_cons_self ..)
    exact sortFn_gives cf hcf W g cap l junk hn hcell.1 (fun W' hK => ⟨hv0.below (hK.below hp.below hcell.2), ht0.below (hK.below hp.below hcell.2)⟩) hz
/-- slices.Compact of them. -/
theorem wl_compQ (k : Nat) {c : Call} {f : Operand} {d : Nat} {V : Vec} {l : List Rat} {len : Nat}
    (hg : guardE ops N env o = some true) (hd : o.dst = some d) (ho : o.op = .call c) (hc : c.callee = .value f) (hf : evO N env f = some (.func (.func 65) #[] #[])) (ha : evArgs (evO N env) c.args.toList = some [V.val len])
    (hk : nth bxs k = some (V.bx 27 (nS l))) (hlen : len = l.length) (hV : V.OK 1 len (nS l)) (hn : l.length ≤ 9223372036854775807)
    (h : ∀ V' : Vec, V'.OK 1 (compQ l).length (nS (compQ l)) → WL r n Tryz.prog N D ops Q rest ((d, V'.val (compQ l).length) :: env) (Hp W0 (bxs.set k (V'.bx 27 (nS (compQ l)))))) : WL r n Tryz.prog N D ops Q (o :: rest) env (Hp W0 bxs) := by
  subst hlen
  have hl := compQ_len l
  obtain ⟨p, cap, junk⟩ := V
  cases p with
  | none =>
    have hz0 := hV.nil rfl
    have hl0 : l = [] := List.length_eq_zero_iff.1 hz0
    subst hl0
    have h := h ⟨none, cap, junk⟩ ⟨by rw [compQ_nil]; rfl, fun _ => by rw [compQ_nil]; rfl, fun h => absurd rfl h⟩
    have e : bxs.set k ((⟨none, cap, junk⟩ : Vec).bx 27 (nS (compQ []))) = bxs := by
      have h1 : bxs[k]? = some ((⟨none, cap, junk⟩ : Vec).bx 27 (nS [])) := by rw [← nth_eq]; exact hk
      exact set_same_get h1
    rw [e] at h
    refine wl_call1 (capt := []) hg hd ho hc hf ha (by kernel_rfl) (fun W _ => ?_) h
    exact comp0_gives W none 0
  | some g =>
    obtain ⟨c1, c2, c3⟩ := hV.cap (by simp)
    have c1 : l.length ≤ cap := c1
    have c2 : cap ≤ maxLen := c2
    have hk' : bxs[k]? = some (rowQ g l junk) := by rw [← nth_eq]; exact hk
    have h := h ⟨some g, cap, compJ l junk⟩ ⟨by simp [nS], fun h => by simp at h, fun _ => ⟨by show (compQ l).length ≤ cap; omega, c2, by
      show (nS (compQ l)).length + (compJ l junk).length = cap * 1
      simp only [nS, compJ, cs, List.length_append, List.length_map, List.length_replicate] at c3 ⊢
      have c3 : l.length + junk.length = cap * 1 := c3
      omega⟩⟩
    refine wl_callN (X := Unit) (val := fun _ => .slice (some ⟨g, 0, none⟩) (compQ l).length cap) (Φ := fun _ => True) (capt := []) k (B := rowQ g l junk) (L1 := []) (L2 := []) (b := g) (ob := .cells (nS l ++ junk).toArray 27 (0, 0)) (fun _ => ⟨g, 27, nS (compQ l) ++ compJ l junk, true, none⟩) (g' := fun _ => g) (o' := fun _ => .cells (nS (compQ l) ++ compJ l junk).toArray 27 (0, 0))
      hg hd ho hc hf ha (by kernel_rfl) hk rfl (fun _ _ => rfl) (fun W hp => ?_) (fun _ _ => h)
    exact compN_gives (hp.own.cell k _ hk' (g, .cells (nS l ++ junk).toArray 27 (0, 0)) (List.mem_cons_self ..)).1 hn c1
end
end Go.Proofs.YtddadjbflgdomaaGreatDoor
namespace Go.Proofs.YtddadjbflgdomaaGreatDoor
open Go Go.RowKit Go.Am Go.Lib
set_option maxRecDepth 10000
-- BOXES 6
theorem bcmpOK : CmpOK 35 := ⟨by kernel_rfl, fun p q W h hv ht => bcompare_gives p q h W hv ht⟩
theorem nS_app (a b : List Rat) : nS (a ++ b) = nS a ++ nS b := List.map_append
theorem nS_len (a : List Rat) : (nS a).length = a.length := List.length_map _
theorem nS_one (l : List Rat) : ∀ u ∈ nS l, u.oneCell' = true := fun u hu => by
  obtain ⟨q, _, rfl⟩ := List.mem_map.1 hu; rfl
/-- A number of a row of numbers. -/
theorem nS_at {W0 W : World} {bxs : List Bx} (hp : Hp W0 bxs W) (k : Nat) {g : Nat} {l : List Rat} {junk : List Value} {i : Nat} (hk : nth bxs k = some ⟨g, 27, nS l ++ junk, true, none⟩) (hi : i < l.length) : RowAt W g (0 + i * 1) [str (numS l[i])] := by
  refine row_pt hp k (A := nS (l.take i)) (C := nS (l.drop (i + 1)) ++ junk) hk ?_ (by rw [nS_len, List.length_take]; omega)
  have e : nS l = nS (l.take i) ++ ([str (numS l[i])] ++ nS (l.drop (i + 1))) := by
    conv => lhs; rw [← List.take_append_drop i l, List.drop_eq_getElem_cons hi, nS_app]
    rfl
  rw [e, List.append_assoc, List.append_assoc]
def chC (b : BmP) : List Rat := [0, b.len, b.l, b.r]
def chF (b : BmP) (i : Nat) : List Rat := chC b ++ (b.fs.take i).map fun f => f.1
def chS (b : BmP) (j : Nat) : List Rat := chF b b.fs.length ++ (b.ss.take j).flatMap fun s => [s.1, s.2.1]
theorem chF_succ {b : BmP} {i : Nat} (hi : i < b.fs.length) : chF b (i + 1) = chF b i ++ [b.fs[i].1] := by
  unfold chF
  rw [List.take_add_one, List.getElem?_eq_getElem hi, List.map_append, ← List.append_assoc]
  rfl
theorem chS_succ {b : BmP} {j : Nat} (hj : j < b.ss.length) : chS b (j + 1) = chS b j ++ [b.ss[j].1, b.ss[j].2.1] := by
  unfold chS
  rw [List.take_add_one, List.getElem?_eq_getElem hj, List.flatMap_append, ← List.append_assoc]
  rfl
theorem chS_all (b : BmP) : b.chg = compQ (sortQ (chS b b.ss.length)) := by
  unfold BmP.chg chS chF chC
  rw [List.take_length, List.take_length]
theorem chS_len (b : BmP) : (chS b b.ss.length).length = 4 + b.fs.length + 2 * b.ss.length := by
  have h : ∀ l : List (Rat × Rat × Rat), (l.flatMap fun s => [s.1, s.2.1]).length = 2 * l.length := fun l => by
    induction l with
    | nil => rfl
    | cons s l ih => show (List.flatMap _ l).length + 1 + 1 = 2 * (l.length + 1); omega
  unfold chS chF chC
  rw [List.length_append, List.length_append, List.length_map, List.take_length, List.take_length, h]
  rfl
theorem chg_ne (b : BmP) : 0 < b.chg.length := by
  have h : (0 : Rat) ∈ b.chg := mem_chg.2 (.inl rfl)
  exact List.length_pos_of_mem h
/-- The places of the first pieces. -/
def zsT (b : BmP) (i : Nat) : List Rat := b.zeros (b.chg.take (i + 1))
theorem zeros_snoc (b : BmP) (x y : Rat) : ∀ l : List Rat, b.zeros (l ++ [x, y]) = b.zeros (l ++ [x]) ++ b.zero1 x y
  | [] => by show b.zero1 x y ++ [] = [] ++ _; simp
  | [p] => by show b.zero1 p x ++ (b.zero1 x y ++ []) = (b.zero1 p x ++ []) ++ _; simp
  | p :: q :: l => by
    have ih := zeros_snoc b x y (q :: l)
    show b.zero1 p q ++ b.zeros (q :: l ++ [x, y]) = (b.zero1 p q ++ b.zeros (q :: l ++ [x])) ++ _
    rw [ih, List.append_assoc]
theorem zsT_succ {b : BmP} {i : Nat} (hi : i + 1 < b.chg.length) : zsT b (i + 1) = zsT b i ++ b.zero1 b.chg[i] b.chg[i + 1] := by
  unfold zsT
  have e1 : b.chg.take (i + 1) = b.chg.take i ++ [b.chg[i]] := by rw [List.take_add_one, List.getElem?_eq_getElem (show i < b.chg.length by omega)]; rfl
  have e2 : b.chg.take (i + 1 + 1) = b.chg.take i ++ [b.chg[i], b.chg[i + 1]] := by rw [List.take_add_one, List.getElem?_eq_getElem hi, e1, List.append_assoc]; rfl
  rw [e2, e1, zeros_snoc]
theorem zero1_len (b : BmP) (p q : Rat) : (b.zero1 p q).length ≤ 1 := by
  unfold BmP.zero1
  split
  · exact Nat.zero_le _
  · split
    · exact Nat.le_refl _
    · exact Nat.zero_le _
theorem zeros_len (b : BmP) : ∀ l : List Rat, (b.zeros l).length ≤ l.length
  | [] => Nat.le_refl _
  | [p] => Nat.zero_le _
  | p :: q :: l => by
    have ih := zeros_len b (q :: l)
    have h1 := zero1_len b p q
    show (b.zero1 p q ++ b.zeros (q :: l)).length ≤ (q :: l).length + 1
    rw [List.length_append]; omega
theorem zsT_len (b : BmP) (i : Nat) : (zsT b i).length ≤ b.chg.length := by
  refine Nat.le_trans (zeros_len b _) ?_
  rw [List.length_take]; omega
theorem ldAt_snoc (p q : Rat) (s : Rat × Rat × Rat) : ∀ l : List (Rat × Rat × Rat), ldAt p q (l ++ [s]) = ldAt p q l + (if s.1 ≤ p ∧ q ≤ s.2.1 then s.2.2 else 0)
  | [] => by show _ + (0 : Rat) = 0 + _; rw [Rat.add_zero, Rat.zero_add]
  | t :: l => by
    have ih := ldAt_snoc p q s l
    show (if t.1 ≤ p ∧ q ≤ t.2.1 then t.2.2 else 0) + ldAt p q (l ++ [s]) = ((if t.1 ≤ p ∧ q ≤ t.2.1 then t.2.2 else 0) + ldAt p q l) + _
    rw [ih, Rat.add_assoc]
theorem ldAt_succ {b : BmP} (p q : Rat) {j : Nat} (hj : j < b.ss.length) : ldAt p q (b.ss.take (j + 1)) = ldAt p q (b.ss.take j) + (if b.ss[j].1 ≤ p ∧ q ≤ b.ss[j].2.1 then b.ss[j].2.2 else 0) := by
  rw [List.take_add_one, List.getElem?_eq_getElem hj]
  exact ldAt_snoc p q _ _
/-- What the places of a beam want. -/
structure OfZ (b : BmP) : Prop where
  len : 4 + b.fs.length + 2 * b.ss.length ≤ 12
  sh : ∀ p ∈ b.chg, ShZ b p ∧ szQ (b.shear p) 90
  ch : ∀ p ∈ chS b b.ss.length, szQ p 40
  ss : ∀ s ∈ b.ss, szQ s.1 40 ∧ szQ s.2.1 40 ∧ szQ s.2.2 40
  ld : ∀ p q j, szQ (ldAt p q (b.ss.take j)) 40
theorem mem_chS {b : BmP} {p : Rat} (h : p ∈ b.chg) : p ∈ chS b b.ss.length := by
  rw [chS_all] at h
  exact mem_sortQ.1 ((mem_compQ _).1 h)
abbrev plB (g : Nat) (u v : Value) : Bx := ⟨g, 68, [u, v], true, none⟩
/-- The places in memory. -/
structure PlV (b : BmP) where
  g : Nat
  cap : Nat
  junk : List Value
  z : Vec
  hc : (⟨some g, cap, junk⟩ : Vec).OK 1 b.chg.length (nS b.chg)
  hz : z.OK 1 (b.zeros b.chg).length (nS (b.zeros b.chg))
abbrev PlV.bc {b : BmP} (V : PlV b) : Bx := ⟨V.g, 27, nS b.chg ++ V.junk, true, none⟩
abbrev PlV.bz {b : BmP} (V : PlV b) : Bx := V.z.bx 27 (nS (b.zeros b.chg))
abbrev PlV.val {b : BmP} (V : PlV b) : Value := .agg #[.slice (some ⟨V.g, 0, none⟩) b.chg.length V.cap, .slice (vAdr V.z) (b.zeros b.chg).length (vCap V.z)]
set_option maxHeartbeats 32000000 in
theorem of_gives (b : BmP) (hz : OfZ b) (p q : Option Addr) (m n : Nat) (W : World) (hM : BmM W b p q) :
    CallsR Tryz.prog 32 #[bmV b p m q n] W (fun V : PlV b => V.val) (fun _ => True) (fun V => [V.bc, V.bz]) := by
  have hv := hM.v
  have ht := hM.t
  have hlen := hz.len
  refine calls_enter (args := [bmV b p m q n]) Tryz.func32 rfl rfl rfl ?_
  refine zA ?_
  refine zB ?_
  (refine wl_box rfl rfl rfl rfl ?_; intro)
  (refine wl_allocZ Tryz.hZ rfl rfl rfl rfl ?_; intro)
  refine wl_nil ?_
  rename_i b1 b2
  refine zE ?_
  refine zA ?_
  refine zB ?_
  (refine wl_allocZ Tryz.hZ rfl rfl rfl rfl ?_; intro)
  refine wl_nil ?_
  rename_i b3
  refine zE ?_
  refine zA ?_
  refine zB ?_
  refine wl_pure Tryz.hT rfl rfl rfl ?_
  refine wl_loadBx 0 Tryz.hT rfl rfl rfl rfl rfl rfl rfl rfl ?_
  refine wl_pure Tryz.hT rfl rfl rfl ?_
  refine wl_loadBx 0 Tryz.hT rfl rfl rfl rfl rfl rfl rfl rfl ?_
  refine wl_pure Tryz.hT rfl rfl rfl ?_
  refine wl_loadBx 0 Tryz.hT rfl rfl rfl rfl rfl rfl rfl rfl ?_
  (refine wl_buildRowZ Tryz.hZ Tryz.hT rfl rfl rfl rfl rfl rfl rfl rfl rfl rfl rfl ?_; intro)
  refine wl_pure Tryz.hT rfl rfl rfl ?_
  refine wl_storeBx 2 Tryz.hT rfl rfl rfl rfl rfl rfl rfl rfl rfl rfl rfl ?_
  refine wl_nil ?_
  rename_i bS
  refine ne_bx (bxs' := [bmB b1 b p m q n, plB b2 (.slice none 0 0) (.slice none 0 0), plB b3 ((⟨some bS, 4, []⟩ : Vec).val 4) (.slice none 0 0), (⟨some bS, 4, []⟩ : Vec).bx 27 (nS (chF b 0))]) (by
    show _ = [bmB b1 b p m q n, plB b2 (.slice none 0 0) (.slice none 0 0), plB b3 (.slice (some ⟨bS, 0, none⟩) 4 4) (.slice none 0 0), (⟨bS, 27, [str (numS 0), str (numS b.len), str (numS b.l), str (numS b.r)] ++ [], true, none⟩ : Bx)]
    rw [numS_zero]; rfl) ?_
  refine zE ?_
  iterate 2 refine zA ?_
  refine zB ?_
  refine wl_pure Tryz.hT rfl rfl rfl ?_
  refine wl_loadBx 0 Tryz.hT rfl rfl rfl rfl rfl rfl rfl rfl ?_
  iterate 2 refine wl_pure Tryz.hT rfl rfl rfl ?_
  refine wl_nil ?_
  refine zE ?_
  refine zH ?_
  refine wc_loop (X := Nat × Vec) (fun s => [(1, selfP b1), (2, selfP b2), (3, selfP b3), (24, .slice p b.fs.length m), (25, .int .i64 (b.fs.length : Nat)), (26, .int .i64 (s.1 : Nat))]) (fun s => [bmB b1 b p m q n, plB b2 (.slice none 0 0) (.slice none 0 0), plB b3 (s.2.val (4 + s.1)) (.slice none 0 0), s.2.bx 27 (nS (chF b s.1))])
    (fun s => s.1 ≤ b.fs.length ∧ s.2.OK 1 (4 + s.1) (nS (chF b s.1))) (fun s => b.fs.length - s.1) (0, ⟨some bS, 4, []⟩) ⟨Nat.zero_le _, rfl, (fun h => by cases h), fun _ => ⟨Nat.le_refl _, by show 4 ≤ maxLen; decide, rfl⟩⟩ ⟨rfl, rfl, rfl, rfl, rfl, rfl, trivial⟩ [] rfl ?_
  rintro ⟨i, V⟩ ⟨hi, hV⟩
  have hi : i ≤ b.fs.length := hi
  have hV : V.OK 1 (4 + i) (nS (chF b i)) := hV
  refine zA ?_
  refine zB ?_
  refine wl_pure Tryz.hT rfl rfl rfl ?_
  by_cases hlt : i < b.fs.length
  · refine wl_upd 27 (.bool true) rfl (congrArg Value.bool (decide_eq_true (by omega))) ?_
    refine wl_nil ?_
    refine zE ?_
    refine zA ?_
    refine zR rfl ?_
    refine zI ?_
    refine zE ?_
    refine zA ?_
    refine zH ?_
    refine zA ?_
    refine zB ?_
    obtain ⟨f, hfe⟩ : ∃ f, f = b.fs[i] := ⟨_, rfl⟩
    have hsuc := chF_succ hlt
    rw [← hfe] at hsuc
    obtain ⟨g, off, hpe, hrow⟩ := hM.f.at_ hlt
    have hrow := hrow i hlt
    rw [← hfe] at hrow
    subst hpe
    refine wl_indexAddr Tryz.hT rfl rfl rfl rfl rfl rfl rfl (by omega) (by omega) ?_
    refine wl_load rfl rfl rfl rfl (fun W hp => RowAt.load 0 Tryz.hT rfl ((fun W1 hp => hrow.hp hp) W hp) rfl) ?_
    (refine wl_allocZ Tryz.hZ rfl rfl rfl rfl ?_; intro)
    refine wl_storeBx 4 Tryz.hT rfl rfl rfl rfl rfl rfl rfl rfl rfl rfl rfl ?_
    refine wl_nil ?_
    rename_i b5
    refine zE ?_
    refine zB ?_
    refine wl_pure Tryz.hT rfl rfl rfl ?_
    refine wl_loadBx 2 Tryz.hT rfl rfl rfl rfl rfl rfl rfl rfl ?_
    refine wl_pure Tryz.hT rfl rfl rfl ?_
    refine wl_loadBx 4 Tryz.hT rfl rfl rfl rfl rfl rfl rfl rfl ?_
    (refine wl_buildRowZ Tryz.hZ Tryz.hT rfl rfl rfl rfl rfl rfl rfl rfl rfl rfl rfl ?_; intro)
    refine wl_appendTo (V := V) (len := 4 + i) (xs := nS (chF b i)) 3 5 Tryz.vec66 (4 + (i + 1)) (nS (chF b (i + 1))) rfl rfl rfl rfl rfl rfl rfl rfl rfl rfl rfl hV rfl rfl rfl (by rw [hsuc, nS_app]; rfl) (by simp only [maxLen]; omega) (by omega) rfl ?_
    intro gV cV jV hV1
    refine wl_pure Tryz.hT rfl rfl rfl ?_
    refine wl_storeBx 2 Tryz.hT rfl rfl rfl rfl rfl rfl rfl rfl rfl rfl rfl ?_
    refine wl_nil ?_
    refine zN ?_
    refine zE ?_
    refine zB ?_
    refine wl_pure Tryz.hT rfl rfl rfl ?_
    refine wl_upd 37 (.int .i64 ((i + 1 : Nat) : Int)) rfl (congrArg (Value.int .i64) (w64_succ (by omega))) ?_
    refine wl_pure Tryz.hT rfl rfl rfl ?_
    refine wl_nil ?_
    exact ne_loop (i + 1, ⟨some gV, cV, jV⟩) ⟨hlt, hV1⟩ (by show b.fs.length - (i + 1) < b.fs.length - i; omega) ⟨rfl, rfl, rfl, rfl, rfl, rfl, trivial⟩ [_, _] rfl
  have e : i = b.fs.length := by omega
  subst e
  refine wl_upd 27 (.bool false) rfl (congrArg Value.bool (decide_eq_false (by omega))) ?_
  refine wl_nil ?_
  refine zE ?_
  refine zA ?_
  refine zS rfl ?_
  refine zJ ?_
  iterate 2 refine zK ?_
  refine zL ?_
  refine zE ?_
  iterate 2 refine zA ?_
  refine zB ?_
  refine wl_pure Tryz.hT rfl rfl rfl ?_
  refine wl_loadBx 0 Tryz.hT rfl rfl rfl rfl rfl rfl rfl rfl ?_
  iterate 2 refine wl_pure Tryz.hT rfl rfl rfl ?_
  refine wl_nil ?_
  refine zE ?_
  refine zH ?_
  refine wc_loop (X := Nat × Vec) (fun s => [(1, selfP b1), (2, selfP b2), (3, selfP b3), (39, .slice q b.ss.length n), (40, .int .i64 (b.ss.length : Nat)), (41, .int .i64 (s.1 : Nat))]) (fun s => [bmB b1 b p m q n, plB b2 (.slice none 0 0) (.slice none 0 0), plB b3 (s.2.val (4 + b.fs.length + 2 * s.1)) (.slice none 0 0), s.2.bx 27 (nS (chS b s.1))])
    (fun s => s.1 ≤ b.ss.length ∧ s.2.OK 1 (4 + b.fs.length + 2 * s.1) (nS (chS b s.1))) (fun s => b.ss.length - s.1) (0, V) ⟨Nat.zero_le _, by
      have e0 : chS b 0 = chF b b.fs.length := by unfold chS; simp
      rw [e0]; exact hV⟩ ⟨rfl, rfl, rfl, rfl, rfl, rfl, trivial⟩ [] (by
      have e0 : chS b 0 = chF b b.fs.length := by unfold chS; simp
      rw [e0]; rfl) ?_
  rintro ⟨j, U⟩ ⟨hj, hU⟩
  have hj : j ≤ b.ss.length := hj
  have hU : U.OK 1 (4 + b.fs.length + 2 * j) (nS (chS b j)) := hU
  refine zA ?_
  refine zB ?_
  refine wl_pure Tryz.hT rfl rfl rfl ?_
  by_cases hlt : j < b.ss.length
  · refine wl_upd 42 (.bool true) rfl (congrArg Value.bool (decide_eq_true (by omega))) ?_
    refine wl_nil ?_
    refine zE ?_
    refine zA ?_
    refine zR rfl ?_
    refine zI ?_
    refine zE ?_
    refine zA ?_
    refine zH ?_
    refine zA ?_
    refine zB ?_
    obtain ⟨f, hfe⟩ : ∃ f, f = b.ss[j] := ⟨_, rfl⟩
    have hsuc := chS_succ hlt
    rw [← hfe] at hsuc
    obtain ⟨g, off, hpe, hrow⟩ := hM.s.at_ hlt
    have hrow := hrow j hlt
    rw [← hfe] at hrow
    subst hpe
    refine wl_indexAddr Tryz.hT rfl rfl rfl rfl rfl rfl rfl (by omega) (by omega) ?_
    refine wl_load rfl rfl rfl rfl (fun W hp => RowAt.load 0 Tryz.hT rfl ((fun W1 hp => hrow.hp hp) W hp) rfl) ?_
    (refine wl_allocZ Tryz.hZ rfl rfl rfl rfl ?_; intro)
    refine wl_storeBx 4 Tryz.hT rfl rfl rfl rfl rfl rfl rfl rfl rfl rfl rfl ?_
    refine wl_nil ?_
    rename_i b7
    refine zE ?_
    refine zB ?_
    refine wl_pure Tryz.hT rfl rfl rfl ?_
    refine wl_loadBx 2 Tryz.hT rfl rfl rfl rfl rfl rfl rfl rfl ?_
    refine wl_pure Tryz.hT rfl rfl rfl ?_
    refine wl_loadBx 4 Tryz.hT rfl rfl rfl rfl rfl rfl rfl rfl ?_
    refine wl_pure Tryz.hT rfl rfl rfl ?_
    refine wl_loadBx 4 Tryz.hT rfl rfl rfl rfl rfl rfl rfl rfl ?_
    (refine wl_buildRowZ Tryz.hZ Tryz.hT rfl rfl rfl rfl rfl rfl rfl rfl rfl rfl rfl ?_; intro)
    refine wl_appendTo (V := U) (len := 4 + b.fs.length + 2 * j) (xs := nS (chS b j)) 3 5 Tryz.vec66 (4 + b.fs.length + 2 * (j + 1)) (nS (chS b (j + 1))) rfl rfl rfl rfl rfl rfl rfl rfl rfl rfl rfl hU rfl rfl rfl (by rw [hsuc, nS_app]; rfl) (by simp only [maxLen]; omega) (by omega) rfl ?_
    intro gV cV jV hV1
    refine wl_pure Tryz.hT rfl rfl rfl ?_
    refine wl_storeBx 2 Tryz.hT rfl rfl rfl rfl rfl rfl rfl rfl rfl rfl rfl ?_
    refine wl_nil ?_
    refine zN ?_
    refine zE ?_
    refine zB ?_
    refine wl_pure Tryz.hT rfl rfl rfl ?_
    refine wl_upd 54 (.int .i64 ((j + 1 : Nat) : Int)) rfl (congrArg (Value.int .i64) (w64_succ (by omega))) ?_
    refine wl_pure Tryz.hT rfl rfl rfl ?_
    refine wl_nil ?_
    exact ne_loop (j + 1, ⟨some gV, cV, jV⟩) ⟨hlt, hV1⟩ (by show b.ss.length - (j + 1) < b.ss.length - j; omega) ⟨rfl, rfl, rfl, rfl, rfl, rfl, trivial⟩ [_, _] rfl
  have e : j = b.ss.length := by omega
  subst e
  refine wl_upd 42 (.bool false) rfl (congrArg Value.bool (decide_eq_false (by omega))) ?_
  refine wl_nil ?_
  refine zE ?_
  refine zA ?_
  refine zS rfl ?_
  refine zJ ?_
  iterate 2 refine zK ?_
  refine zL ?_
  refine zE ?_
  refine zA ?_
  refine zB ?_
  have hsl := sortQ_len (chS b b.ss.length)
  have hcl := chS_len b
  refine wl_pure Tryz.hT rfl rfl rfl ?_
  refine wl_loadBx 2 Tryz.hT rfl rfl rfl rfl rfl rfl rfl rfl ?_
  refine wl_sortQ 3 35 bcmpOK hv ht (V := U) (l := chS b b.ss.length) (len := 4 + b.fs.length + 2 * b.ss.length) rfl rfl rfl rfl rfl rfl rfl hcl.symm hU (by omega) (fun x hx y hy => sz2 (hz.ch x hx) (hz.ch y hy) (by decide)) ?_
  refine wl_nil ?_
  refine zE ?_
  refine zA ?_
  refine zB ?_
  refine wl_pure Tryz.hT rfl rfl rfl ?_
  refine wl_loadBx 2 Tryz.hT rfl rfl rfl rfl rfl rfl rfl rfl ?_
  refine wl_compQ 3 (V := U) (l := sortQ (chS b b.ss.length)) (len := 4 + b.fs.length + 2 * b.ss.length) rfl rfl rfl rfl rfl rfl rfl (by rw [hsl, hcl]) ⟨by rw [nS_len, hsl, hcl, Nat.mul_one], hU.nil, fun h => by
    have h2 := hU.cap h
    refine ⟨h2.1, h2.2.1, ?_⟩
    have h3 := h2.2.2
    rw [nS_len] at h3 ⊢
    rw [hsl]
    exact h3⟩ (by omega) ?_
  intro V2 hV2
  rw [← chS_all] at hV2 ⊢
  have hcn := chg_ne b
  obtain ⟨pc, cap, junk⟩ := V2
  cases pc with
  | none => have := hV2.nil rfl; omega
  | some gC =>
  have hlc : b.chg.length ≤ 12 := by
    have := compQ_len (sortQ (chS b b.ss.length))
    rw [← chS_all, hsl, hcl] at this; omega
  refine wl_pure Tryz.hT rfl rfl rfl ?_
  refine wl_storeBx 2 Tryz.hT rfl rfl rfl rfl rfl rfl rfl rfl rfl rfl rfl ?_
  refine wl_nil ?_
  refine zE ?_
  iterate 2 refine zA ?_
  refine zB ?_
  refine wl_pure Tryz.hT rfl rfl rfl ?_
  refine wl_nil ?_
  refine zE ?_
  refine zH ?_
  refine wc_newGone ?_
  refine wc_loop (X := Nat × Vec) (fun s => [(1, selfP b1), (2, selfP b2), (3, selfP b3), (8, .int .i64 (s.1 : Nat))]) (fun s => [bmB b1 b p m q n, plB b2 (.slice none 0 0) (.slice none 0 0), plB b3 (.slice (some ⟨gC, 0, none⟩) b.chg.length cap) (s.2.val (zsT b s.1).length), ⟨gC, 27, nS b.chg ++ junk, true, none⟩, s.2.bx 27 (nS (zsT b s.1))])
    (fun s => s.1 < b.chg.length ∧ s.2.OK 1 (zsT b s.1).length (nS (zsT b s.1))) (fun s => b.chg.length - s.1) (0, Vec.empty) (by
      have e0 : zsT b 0 = [] := by
        unfold zsT
        cases h : b.chg with
        | nil => rfl
        | cons x l => rfl
      rw [e0]; exact ⟨hcn, Vec.OK.empty 1⟩) ⟨rfl, rfl, rfl, rfl, trivial⟩ [] (by
      have e0 : zsT b 0 = [] := by
        unfold zsT
        cases h : b.chg with
        | nil => rfl
        | cons x l => rfl
      rw [e0]; rfl) ?_
  rintro ⟨i, Z⟩ ⟨hi, hZ⟩
  have hi : i < b.chg.length := hi
  have hZ : Z.OK 1 (zsT b i).length (nS (zsT b i)) := hZ
  iterate 2 refine zA ?_
  refine zB ?_
  iterate 2 refine wl_pure Tryz.hT rfl rfl rfl ?_
  refine wl_upd 63 (.int .i64 ((i + 1 : Nat) : Int)) rfl (congrArg (Value.int .i64) (w64_succ (by omega))) ?_
  refine wl_pure Tryz.hT rfl rfl rfl ?_
  refine wl_loadBx 2 Tryz.hT rfl rfl rfl rfl rfl rfl rfl rfl ?_
  iterate 2 refine wl_pure Tryz.hT rfl rfl rfl ?_
  by_cases hlt : i + 1 < b.chg.length
  rotate_left
  · have e : b.chg.take (i + 1) = b.chg := List.take_of_length_le (by omega)
    have ez : zsT b i = b.zeros b.chg := by unfold zsT; rw [e]
    refine wl_upd 67 (.bool false) rfl (congrArg Value.bool (decide_eq_false (by omega))) ?_
    refine wl_nil ?_
    rw [ez] at hZ
    refine ne_bx (bxs' := [bmB b1 b p m q n, plB b2 (.slice none 0 0) (.slice none 0 0), plB b3 (.slice (some ⟨gC, 0, none⟩) b.chg.length cap) (.slice (vAdr Z) (b.zeros b.chg).length (vCap Z)), ⟨gC, 27, nS b.chg ++ junk, true, none⟩, Z.bx 27 (nS (b.zeros b.chg))]) (by rw [← vec_val hZ, ← ez]) ?_
    refine zE ?_
    refine zS rfl ?_
    refine zJ ?_
    iterate 2 refine zK ?_
    refine zL ?_
    refine zE ?_
    refine zA ?_
    refine zB ?_
    refine wl_loadBx 2 Tryz.hT rfl rfl rfl rfl rfl rfl rfl rfl ?_
    refine wl_storeBx 1 Tryz.hT rfl rfl rfl rfl rfl rfl rfl rfl rfl rfl rfl ?_
    refine wl_nil ?_
    refine zE ?_
    refine zO ?_
    exact ne_ret1 Tryz.hT rfl (.cell 1 rfl rfl rfl rfl rfl) (⟨gC, cap, junk, Z, hV2, hZ⟩ : PlV b) rfl trivial fun W1 hp => NewBx.of_hp (hp.pick (l := [⟨gC, 27, nS b.chg ++ junk, true, none⟩, Z.bx 27 (nS (b.zeros b.chg))]) [3, 4] (by decide) rfl)
  refine wl_upd 67 (.bool true) rfl (congrArg Value.bool (decide_eq_true (by omega))) ?_
  refine wl_nil ?_
  refine zE ?_
  refine zR rfl ?_
  refine zI ?_
  refine zE ?_
  refine zA ?_
  refine zH ?_
  refine zA ?_
  refine zT Tryz.mixed (by kernel_rfl) ?_
  obtain ⟨x, hx⟩ : ∃ x, x = b.chg[i] := ⟨_, rfl⟩
  obtain ⟨y, hy⟩ : ∃ y, y = b.chg[i + 1] := ⟨_, rfl⟩
  have hxm : x ∈ b.chg := hx ▸ List.getElem_mem _
  have hym : y ∈ b.chg := hy ▸ List.getElem_mem _
  have zx := hz.ch x (mem_chS hxm)
  have zy := hz.ch y (mem_chS hym)
  obtain ⟨hsh, hss⟩ := hz.sh x hxm
  have hsuc := zsT_succ hlt
  rw [← hx, ← hy] at hsuc
  refine wq_pure Tryz.hT rfl rfl rfl ?_
  refine wq_loadBx 2 Tryz.hT rfl rfl rfl rfl rfl rfl rfl rfl ?_
  refine wq_pure Tryz.hT rfl rfl rfl ?_
  refine wq_indexAddr Tryz.hT rfl rfl rfl rfl rfl rfl rfl (by omega) (by omega) ?_
  refine wq_load rfl rfl rfl rfl (fun W hp => RowAt.load 0 Tryz.hT rfl ((fun W1 hp => show RowAt W1 gC (0 + i * 1) [str (numS x)] by rw [hx]; exact nS_at hp 3 rfl hi) W hp) rfl) ?_
  refine wq_pure Tryz.hT rfl rfl rfl ?_
  refine wq_loadBx 2 Tryz.hT rfl rfl rfl rfl rfl rfl rfl rfl ?_
  iterate 2 refine wq_pure Tryz.hT rfl rfl rfl ?_
  refine wq_upd 78 (.int .i64 ((i + 1 : Nat) : Int)) rfl (congrArg (Value.int .i64) (w64_succ (by omega))) ?_
  refine wq_indexAddr Tryz.hT rfl rfl rfl rfl rfl rfl rfl (by omega) (by omega) ?_
  refine wq_load rfl rfl rfl rfl (fun W hp => RowAt.load 0 Tryz.hT rfl ((fun W1 hp => show RowAt W1 gC (0 + (i + 1) * 1) [str (numS y)] by rw [hy]; exact nS_at hp 3 rfl hlt) W hp) rfl) ?_
  iterate 2 refine wq_pure Tryz.hT rfl rfl rfl ?_
  refine wq_nil ?_
  refine wl_nil ?_
  refine zE ?_
  refine zA ?_
  refine zB ?_
  refine wl_pure Tryz.hT rfl rfl rfl ?_
  refine wl_nil ?_
  refine zE ?_
  iterate 2 refine zA ?_
  refine zB ?_
  refine wl_pure Tryz.hT rfl rfl rfl ?_
  refine wl_loadBx 0 Tryz.hT rfl rfl rfl rfl rfl rfl rfl rfl ?_
  iterate 2 refine wl_pure Tryz.hT rfl rfl rfl ?_
  refine wl_nil ?_
  refine zE ?_
  refine zH ?_
  refine wc_loop (X := Nat) (fun j => [(1, selfP b1), (2, selfP b2), (3, selfP b3), (8, .int .i64 (i : Nat)), (9, str (numS x)), (10, str (numS y)), (11, str (numS (ldAt x y (b.ss.take j)))), (82, .slice q b.ss.length n), (83, .int .i64 (b.ss.length : Nat)), (84, .int .i64 (j : Nat))]) (fun _ => [bmB b1 b p m q n, plB b2 (.slice none 0 0) (.slice none 0 0), plB b3 (.slice (some ⟨gC, 0, none⟩) b.chg.length cap) (Z.val (zsT b i).length), ⟨gC, 27, nS b.chg ++ junk, true, none⟩, Z.bx 27 (nS (zsT b i))])
    (fun j => j ≤ b.ss.length) (fun j => b.ss.length - j) 0 (Nat.zero_le _) ⟨rfl, rfl, rfl, rfl, rfl, rfl, by rw [show ldAt x y (b.ss.take 0) = 0 by rw [List.take_zero]; rfl, numS_zero]; rfl, rfl, rfl, rfl, trivial⟩ [] rfl ?_
  intro j hj
  have hj : j ≤ b.ss.length := hj
  refine zA ?_
  refine zB ?_
  refine wl_pure Tryz.hT rfl rfl rfl ?_
  by_cases hjl : j < b.ss.length
  · refine wl_upd 85 (.bool true) rfl (congrArg Value.bool (decide_eq_true (by omega))) ?_
    refine wl_nil ?_
    refine zE ?_
    refine zA ?_
    refine zR rfl ?_
    refine zI ?_
    refine zE ?_
    refine zA ?_
    refine zH ?_
    refine zA ?_
    refine zB ?_
    obtain ⟨f, hfe⟩ : ∃ f, f = b.ss[j] := ⟨_, rfl⟩
    have hls := ldAt_succ x y hjl
    rw [← hfe] at hls
    obtain ⟨z1, z2, z3⟩ := hz.ss f (hfe ▸ List.getElem_mem hjl)
    have zl := hz.ld x y j
    obtain ⟨g, off, hpe, hrow⟩ := hM.s.at_ hjl
    have hrow := hrow j hjl
    rw [← hfe] at hrow
    subst hpe
    refine wl_indexAddr Tryz.hT rfl rfl rfl rfl rfl rfl rfl (by omega) (by omega) ?_
    refine wl_load rfl rfl rfl rfl (fun W hp => RowAt.load 0 Tryz.hT rfl ((fun W1 hp => hrow.hp hp) W hp) rfl) ?_
    (refine wl_allocZ Tryz.hZ rfl rfl rfl rfl ?_; intro)
    refine wl_storeBx 5 Tryz.hT rfl rfl rfl rfl rfl rfl rfl rfl rfl rfl rfl ?_
    refine wl_nil ?_
    rename_i b13
    refine zE ?_
    refine zA ?_
    refine zB ?_
    refine wl_pure Tryz.hT rfl rfl rfl ?_
    refine wl_loadBx 5 Tryz.hT rfl rfl rfl rfl rfl rfl rfl rfl ?_
    refine wl_pure Tryz.hT rfl rfl rfl ?_
    refine wl_call1 rfl rfl rfl rfl rfl rfl (by kernel_rfl) (fun W1 hp => bcompare_gives f.1 x (sz2 z1 zx (by decide)) W1 (hv.hp hp) (ht.hp hp)) ?_
    refine wl_pure Tryz.hT rfl rfl rfl ?_
    refine wl_upd 92 (.bool (decide (f.1 ≤ x))) rfl (congrArg Value.bool (cmpQ_le0 f.1 x)) ?_
    by_cases c1 : f.1 ≤ x
    · refine wl_upd 92 (.bool true) rfl (congrArg Value.bool (decide_eq_true c1)) ?_
      iterate 2 refine wl_pure Tryz.hT rfl rfl rfl ?_
      refine wl_loadBx 5 Tryz.hT rfl rfl rfl rfl rfl rfl rfl rfl ?_
      refine wl_pure Tryz.hT rfl rfl rfl ?_
      refine wl_call1 rfl rfl rfl rfl rfl rfl (by kernel_rfl) (fun W1 hp => bcompare_gives f.2.1 y (sz2 z2 zy (by decide)) W1 (hv.hp hp) (ht.hp hp)) ?_
      refine wl_pure Tryz.hT rfl rfl rfl ?_
      refine wl_upd 98 (.bool (decide (y ≤ f.2.1))) rfl (congrArg Value.bool (cmpQ_ge0 f.2.1 y)) ?_
      refine wl_pure Tryz.hT rfl rfl rfl ?_
      refine wl_nil ?_
      refine zE ?_
      refine wc_cond rfl (fun h => ?_) (fun h => ?_)
      · have c2 : y ≤ f.2.1 := of_decide_eq_true h
        clear h
        rw [if_pos ⟨c1, c2⟩] at hls
        refine zB ?_
        iterate 2 refine wl_pure Tryz.hT rfl rfl rfl ?_
        refine wl_loadBx 5 Tryz.hT rfl rfl rfl rfl rfl rfl rfl rfl ?_
        refine wl_call1 rfl rfl rfl rfl rfl rfl (by kernel_rfl) (fun W1 hp => badd_gives (ldAt x y (b.ss.take j)) f.2.2 (sz2 zl z3 (by decide)) W1 (hv.hp hp) (ht.hp hp)) ?_
        refine wl_pure Tryz.hT rfl rfl rfl ?_
        refine wl_nil ?_
        refine zN ?_
        refine zE ?_
        refine zB ?_
        refine wl_pure Tryz.hT rfl rfl rfl ?_
        refine wl_upd 104 (.int .i64 ((j + 1 : Nat) : Int)) rfl (congrArg (Value.int .i64) (w64_succ (by omega))) ?_
        refine wl_pure Tryz.hT rfl rfl rfl ?_
        refine wl_nil ?_
        exact ne_loop (j + 1) hjl (by show b.ss.length - (j + 1) < b.ss.length - j; omega) ⟨rfl, rfl, rfl, rfl, rfl, rfl, by rw [hls]; rfl, rfl, rfl, rfl, trivial⟩ [_] rfl
      · have c2 : ¬ y ≤ f.2.1 := of_decide_eq_false h
        clear h
        rw [if_neg (fun h => c2 h.2), Rat.add_zero] at hls
        refine zI ?_
        refine zN ?_
        refine zE ?_
        refine zB ?_
        refine wl_pure Tryz.hT rfl rfl rfl ?_
        refine wl_upd 104 (.int .i64 ((j + 1 : Nat) : Int)) rfl (congrArg (Value.int .i64) (w64_succ (by omega))) ?_
        refine wl_pure Tryz.hT rfl rfl rfl ?_
        refine wl_nil ?_
        exact ne_loop (j + 1) hjl (by show b.ss.length - (j + 1) < b.ss.length - j; omega) ⟨rfl, rfl, rfl, rfl, rfl, rfl, by rw [hls]; rfl, rfl, rfl, rfl, trivial⟩ [_] rfl
    · refine wl_upd 92 (.bool false) rfl (congrArg Value.bool (decide_eq_false c1)) ?_
      rw [if_neg (fun h => c1 h.1), Rat.add_zero] at hls
      refine wl_pure Tryz.hT rfl rfl rfl ?_
      iterate 5 refine wl_skip rfl rfl ?_
      refine wl_pure Tryz.hT rfl rfl rfl ?_
      refine wl_nil ?_
      refine zE ?_
      refine zS rfl ?_
      refine zI ?_
      refine zN ?_
      refine zE ?_
      refine zB ?_
      refine wl_pure Tryz.hT rfl rfl rfl ?_
      refine wl_upd 104 (.int .i64 ((j + 1 : Nat) : Int)) rfl (congrArg (Value.int .i64) (w64_succ (by omega))) ?_
      refine wl_pure Tryz.hT rfl rfl rfl ?_
      refine wl_nil ?_
      exact ne_loop (j + 1) hjl (by show b.ss.length - (j + 1) < b.ss.length - j; omega) ⟨rfl, rfl, rfl, rfl, rfl, rfl, by rw [hls]; rfl, rfl, rfl, rfl, trivial⟩ [_] rfl
  have e : j = b.ss.length := by omega
  subst e
  obtain ⟨K, hK⟩ : ∃ K, K = ldAt x y b.ss := ⟨_, rfl⟩
  have hKe : ldAt x y (b.ss.take b.ss.length) = K := by rw [List.take_length, hK]
  have szK : szQ K 40 := hKe ▸ hz.ld x y b.ss.length
  refine wl_upd 85 (.bool false) rfl (congrArg Value.bool (decide_eq_false (by omega))) ?_
  refine wl_nil ?_
  refine zE ?_
  refine zA ?_
  refine zS rfl ?_
  refine zJ ?_
  iterate 2 refine zK ?_
  refine zL ?_
  refine zE ?_
  iterate 2 refine zA ?_
  refine zB ?_
  refine wl_pure Tryz.hT rfl rfl rfl ?_
  refine wl_upd 105 (str (numS K)) rfl (by rw [hKe]) ?_
  refine wl_pure Tryz.hT rfl rfl rfl ?_
  refine wl_upd 106 (.bool (decide (K = 0))) rfl (congrArg Value.bool (by rw [strEqB, numS_eq0])) ?_
  refine wl_nil ?_
  refine zE ?_
  refine wc_cond rfl (fun h => ?_) (fun h => ?_)
  · have hK0 : K = 0 := of_decide_eq_true h
    clear h
    have e1 : zsT b (i + 1) = zsT b i := by rw [hsuc, BmP.zero1, if_pos (by rw [← hK]; exact hK0), List.append_nil]
    refine zJ ?_
    refine zK ?_
    refine zL ?_
    refine zE ?_
    refine zB ?_
    iterate 2 refine wl_pure Tryz.hT rfl rfl rfl ?_
    refine wl_upd 69 (.int .i64 ((i + 1 : Nat) : Int)) rfl (congrArg (Value.int .i64) (w64_succ (by omega))) ?_
    refine wl_pure Tryz.hT rfl rfl rfl ?_
    refine wl_nil ?_
    exact ne_loop (i + 1, Z) ⟨hlt, by show Z.OK 1 (zsT b (i + 1)).length (nS (zsT b (i + 1))); rw [e1]; exact hZ⟩ (by show b.chg.length - (i + 1) < b.chg.length - i; omega) ⟨rfl, rfl, rfl, rfl, trivial⟩ [] (by show _ = [_, _, plB b3 _ (Z.val (zsT b (i + 1)).length), _, Z.bx 27 (nS (zsT b (i + 1)))] ++ []; rw [e1]; rfl)
  have hK0 : ¬ K = 0 := of_decide_eq_false h
  clear h
  refine zI ?_
  refine zE ?_
  refine zA ?_
  refine zB ?_
  obtain ⟨w, hw⟩ : ∃ w, w = x + b.shear x / K := ⟨_, rfl⟩
  have zd := hss.div szK (num_ne hK0)
  have zw : szQ w 180 := by rw [hw]; exact (zx.add zd).mono (by decide)
  have hz1 : b.zero1 x y = if x < w ∧ w < y then [w] else [] := by rw [BmP.zero1, ← hK, if_neg hK0, hw]
  refine wl_pure Tryz.hT rfl rfl rfl ?_
  refine wl_loadBx 0 Tryz.hT rfl rfl rfl rfl rfl rfl rfl rfl ?_
  refine wl_pure Tryz.hT rfl rfl rfl ?_
  refine wl_call1 rfl rfl rfl rfl rfl rfl (by kernel_rfl) (fun W1 hp => shear_gives b x p q m n W1 (hM.hp hp) hsh) ?_
  refine wl_pure Tryz.hT rfl rfl rfl ?_
  refine wl_upd 111 (str (numS K)) rfl (by rw [hKe]) ?_
  refine wl_call1 rfl rfl rfl rfl rfl rfl (by kernel_rfl) (fun W1 hp => bdiv_gives (b.shear x) K (sz2 hss szK (by decide)) (num_ne hK0) W1 (hv.hp hp) (ht.hp hp)) ?_
  refine wl_call1 rfl rfl rfl rfl rfl rfl (by kernel_rfl) (fun W1 hp => (badd_gives x (b.shear x / K) (sz2 zx zd (by decide)) W1 (hv.hp hp) (ht.hp hp)).cast (by rw [← hw])) ?_
  refine wl_pure Tryz.hT rfl rfl rfl ?_
  refine wl_nil ?_
  refine ne_then ?_
  try refine wc_seq ?_
  refine wc_cutS (X := Unit) (fun _ => [(1, selfP b1), (2, selfP b2), (3, selfP b3), (8, .int .i64 (i : Nat)), (14, str (numS w)), (123, .bool (decide (x < w ∧ w < y)))]) (fun _ => [bmB b1 b p m q n, plB b2 (.slice none 0 0) (.slice none 0 0), plB b3 (.slice (some ⟨gC, 0, none⟩) b.chg.length cap) (Z.val (zsT b i).length), ⟨gC, 27, nS b.chg ++ junk, true, none⟩, Z.bx 27 (nS (zsT b i))]) (fun _ => True) ?_ ?_
  · refine zB ?_
    iterate 2 refine wl_pure Tryz.hT rfl rfl rfl ?_
    refine wl_call1 rfl rfl rfl rfl rfl rfl (by kernel_rfl) (fun W1 hp => bcompare_gives w x (sz2 zw zx (by decide)) W1 (hv.hp hp) (ht.hp hp)) ?_
    refine wl_pure Tryz.hT rfl rfl rfl ?_
    refine wl_upd 117 (.bool (decide (x < w))) rfl (congrArg Value.bool (cmpQ_gt0 w x)) ?_
    by_cases c1 : x < w
    · refine wl_upd 117 (.bool true) rfl (congrArg Value.bool (decide_eq_true c1)) ?_
      iterate 3 refine wl_pure Tryz.hT rfl rfl rfl ?_
      refine wl_call1 rfl rfl rfl rfl rfl rfl (by kernel_rfl) (fun W1 hp => bcompare_gives w y (sz2 zw zy (by decide)) W1 (hv.hp hp) (ht.hp hp)) ?_
      refine wl_pure Tryz.hT rfl rfl rfl ?_
      refine wl_upd 122 (.bool (decide (w < y))) rfl (congrArg Value.bool (cmpQ_lt0 w y)) ?_
      refine wl_pure Tryz.hT rfl rfl rfl ?_
      refine wl_nil ?_
      exact ne_cut () trivial ⟨rfl, rfl, rfl, rfl, rfl, by rw [show decide (x < w ∧ w < y) = decide (w < y) by rw [decide_eq_decide]; exact ⟨fun h => h.2, fun h => ⟨c1, h⟩⟩]; rfl, trivial⟩ [] rfl
    · refine wl_upd 117 (.bool false) rfl (congrArg Value.bool (decide_eq_false c1)) ?_
      refine wl_pure Tryz.hT rfl rfl rfl ?_
      iterate 4 refine wl_skip rfl rfl ?_
      refine wl_pure Tryz.hT rfl rfl rfl ?_
      refine wl_nil ?_
      exact ne_cut () trivial ⟨rfl, rfl, rfl, rfl, rfl, by rw [show decide (x < w ∧ w < y) = false from decide_eq_false (fun h => c1 h.1)]; rfl, trivial⟩ [] rfl
  intro _ _
  refine wc_cond rfl (fun h => ?_) (fun h => ?_)
  · have hc : x < w ∧ w < y := of_decide_eq_true h
    clear h
    have e1 : zsT b (i + 1) = zsT b i ++ [w] := by rw [hsuc, hz1, if_pos hc]
    have hzl := zsT_len b i
    refine zB ?_
    refine wl_pure Tryz.hT rfl rfl rfl ?_
    refine wl_loadBx 2 Tryz.hT rfl rfl rfl rfl rfl rfl rfl rfl ?_
    refine wl_pure Tryz.hT rfl rfl rfl ?_
    (refine wl_buildRowZ Tryz.hZ Tryz.hT rfl rfl rfl rfl rfl rfl rfl rfl rfl rfl rfl ?_; intro)
    refine wl_appendTo (V := Z) (len := (zsT b i).length) (xs := nS (zsT b i)) 4 5 Tryz.vec66 (zsT b (i + 1)).length (nS (zsT b (i + 1))) rfl rfl rfl rfl rfl rfl rfl rfl rfl rfl rfl hZ rfl rfl (by rw [e1]; simp) (by rw [e1, nS_app]; rfl) (by simp only [maxLen]; rw [e1, List.length_append]; show _ + 1 ≤ _; omega) (by rw [e1, List.length_append]; show (_ + 1) * _ ≤ _; omega) rfl ?_
    intro gV cV jV hV1
    refine wl_pure Tryz.hT rfl rfl rfl ?_
    refine wl_storeBx 2 Tryz.hT rfl rfl rfl rfl rfl rfl rfl rfl rfl rfl rfl ?_
    refine wl_nil ?_
    refine zN ?_
    refine zE ?_
    refine zB ?_
    iterate 2 refine wl_pure Tryz.hT rfl rfl rfl ?_
    refine wl_upd 69 (.int .i64 ((i + 1 : Nat) : Int)) rfl (congrArg (Value.int .i64) (w64_succ (by omega))) ?_
    refine wl_pure Tryz.hT rfl rfl rfl ?_
    refine wl_nil ?_
    exact ne_loop (i + 1, ⟨some gV, cV, jV⟩) ⟨hlt, hV1⟩ (by show b.chg.length - (i + 1) < b.chg.length - i; omega) ⟨rfl, rfl, rfl, rfl, trivial⟩ [_] rfl
  · have hc : ¬ (x < w ∧ w < y) := of_decide_eq_false h
    clear h
    have e1 : zsT b (i + 1) = zsT b i := by rw [hsuc, hz1, if_neg hc, List.append_nil]
    refine zI ?_
    refine zN ?_
    refine zE ?_
    refine zB ?_
    iterate 2 refine wl_pure Tryz.hT rfl rfl rfl ?_
    refine wl_upd 69 (.int .i64 ((i + 1 : Nat) : Int)) rfl (congrArg (Value.int .i64) (w64_succ (by omega))) ?_
    refine wl_pure Tryz.hT rfl rfl rfl ?_
    refine wl_nil ?_
    exact ne_loop (i + 1, Z) ⟨hlt, by show Z.OK 1 (zsT b (i + 1)).length (nS (zsT b (i + 1))); rw [e1]; exact hZ⟩ (by show b.chg.length - (i + 1) < b.chg.length - i; omega) ⟨rfl, rfl, rfl, rfl, trivial⟩ [] (by show _ = [_, _, plB b3 _ (Z.val (zsT b (i + 1)).length), _, Z.bx 27 (nS (zsT b (i + 1)))] ++ []; rw [e1]; rfl)
end Go.Proofs.YtddadjbflgdomaaGreatDoor
namespace Go.Proofs.YtddadjbflgdomaaGreatDoor
open Go Go.RowKit Go.Am Go.Lib
set_option maxRecDepth 10000
-- BOXES 5
/-- What the greatest moment wants. -/
structure GrZ (b : BmP) : Prop where
  rc : BmC b
  of : OfZ b
  mo : ∀ x ∈ b.chg ++ b.zeros b.chg, MoZ b x ∧ szQ x 130 ∧ szQ (b.moment x) 140
  len : (b.chg ++ b.zeros b.chg).length ≤ 12
theorem bestQ_snoc (m : Rat → Rat) (x : Rat) : ∀ (l : List Rat) (w : Rat), bestQ m w (l ++ [x]) = if m (bestQ m w l) < m x then x else bestQ m w l
  | [], w => rfl
  | y :: l, w => by
    show bestQ m (if m w < m y then y else w) (l ++ [x]) = _
    rw [bestQ_snoc m x l]
    rfl
theorem bestQ_mem (m : Rat → Rat) : ∀ (l : List Rat) (w : Rat), bestQ m w l ∈ w :: l
  | [], w => List.mem_cons_self ..
  | y :: l, w => by
    show bestQ m (if m w < m y then y else w) l ∈ _
    rcases List.mem_cons.1 (bestQ_mem m l (if m w < m y then y else w)) with h | h
    · rw [h]
      split
      · exact List.mem_cons_of_mem _ (List.mem_cons_self ..)
      · exact List.mem_cons_self ..
    · exact List.mem_cons_of_mem _ (List.mem_cons_of_mem _ h)
theorem bestQ_take {m : Rat → Rat} {w : Rat} {l : List Rat} {i : Nat} (hi : i < l.length) : bestQ m w (l.take (i + 1)) = if m (bestQ m w (l.take i)) < m l[i] then l[i] else bestQ m w (l.take i) := by
  rw [List.take_add_one, List.getElem?_eq_getElem hi]
  exact bestQ_snoc m _ _ _
/-- Numbers in the rest of a row. -/
theorem nS_tail {W0 W : World} {bxs : List Bx} (hp : Hp W0 bxs W) (k : Nat) {g : Nat} {a : Rat} {l : List Rat} {junk : List Value} {i : Nat} {off : Nat} (hoff : off = 1 * 1) (hk : nth bxs k = some ⟨g, 27, nS (a :: l) ++ junk, true, none⟩) (hi : i < l.length) : RowAt W g (off + i * 1) [str (numS l[i])] := by
  have h := nS_at hp k (i := i + 1) hk (by show i + 1 < l.length + 1; omega)
  rw [hoff, show 1 * 1 + i * 1 = 0 + (i + 1) * 1 by omega]
  exact h
set_option maxHeartbeats 16000000 in
theorem bGreatest_gives (b : BmP) (hz : GrZ b) (p q : Option Addr) (m n : Nat) (W : World) (hM : BmM W b p q) :
    CallsR Tryz.prog 11 #[bmV b p m q n] W (fun _ : Unit => .tuple #[str (numS (b.moment b.where_)), str (numS b.where_), .int .i64 0]) (fun _ => True) (fun _ => []) := by
  have hv := hM.v
  have ht := hM.t
  have hzl := zeros_len b b.chg
  have hll := hz.len
  have hne := chg_ne b
  rw [List.length_append] at hll
  refine calls_enter (args := [bmV b p m q n]) Tryz.func11 rfl rfl rfl ?_
  refine zA ?_
  refine zB ?_
  (refine wl_box rfl rfl rfl rfl ?_; intro)
  iterate 3 refine wl_pure Tryz.hT rfl rfl rfl ?_
  refine wl_nil ?_
  rename_i b1
  refine zE ?_
  iterate 2 refine zA ?_
  refine zB ?_
  refine wl_loadBx 0 Tryz.hT rfl rfl rfl rfl rfl rfl rfl rfl ?_
  refine wl_call1 rfl rfl rfl rfl rfl rfl (by kernel_rfl) (fun W hp => bcheck_gives b hz.rc p q m n W (hM.hp hp)) ?_
  refine wl_pure Tryz.hT rfl rfl rfl ?_
  refine wl_nil ?_
  refine zE ?_
  refine zS rfl ?_
  refine zI ?_
  refine zE ?_
  refine zA ?_
  refine zB ?_
  refine wl_loadBx 0 Tryz.hT rfl rfl rfl rfl rfl rfl rfl rfl ?_
  refine wl_call (X := PlV b) rfl rfl rfl rfl rfl rfl (by kernel_rfl) (fun W hp => of_gives b hz.of p q m n W (hM.hp hp)) ?_
  intro P _
  (refine wl_allocZ Tryz.hZ rfl rfl rfl rfl ?_; intro)
  refine wl_storeBx 3 Tryz.hT rfl rfl rfl rfl rfl rfl rfl rfl rfl rfl rfl ?_
  refine wl_nil ?_
  rename_i b5
  refine zE ?_
  refine zA ?_
  refine zB ?_
  refine wl_pure Tryz.hT rfl rfl rfl ?_
  refine wl_loadBx 3 Tryz.hT rfl rfl rfl rfl rfl rfl rfl rfl ?_
  refine wl_pure Tryz.hT rfl rfl rfl ?_
  refine wl_loadBx 3 Tryz.hT rfl rfl rfl rfl rfl rfl rfl rfl ?_
  (refine wl_buildRowZ Tryz.hZ Tryz.hT rfl rfl rfl rfl rfl rfl rfl rfl rfl rfl rfl ?_; intro)
  rename_i bL
  refine wl_call (X := Vec) rfl rfl rfl rfl rfl rfl (by kernel_rfl) (fun W1 hp => by
    have hrow : RowAt W1 bL 0 [.slice (some ⟨P.g, 0, none⟩) b.chg.length P.cap, .slice (vAdr P.z) (b.zeros b.chg).length (vCap P.z)] := by
      exact RowAt.of_bx hp 4 rfl rfl
    exact concatN_gives W1 bL 2 (some ⟨P.g, 0, none⟩) (vAdr P.z) b.chg.length (b.zeros b.chg).length P.cap (vCap P.z) (nS b.chg) (nS (b.zeros b.chg)) hrow
      (CellsP.of_vec P.hc 1 rfl hp) (CellsP.of_vec P.hz 2 rfl hp) (by rw [nS_len, Nat.mul_one]) (by rw [nS_len, Nat.mul_one]) (nS_one _) (nS_one _) (by omega) (by omega)) ?_
  intro A hA
  have hA : A.OK 1 (b.chg.length + (b.zeros b.chg).length) (nS b.chg ++ nS (b.zeros b.chg)) := hA
  rw [← nS_app] at hA ⊢
  refine wl_pure Tryz.hT rfl rfl rfl ?_
  refine wl_nil ?_
  have hsl := sortQ_len (b.chg ++ b.zeros b.chg)
  rw [List.length_append] at hsl
  refine zE ?_
  refine zA ?_
  refine zB ?_
  refine wl_pure Tryz.hT rfl rfl rfl ?_
  refine wl_sortQ 5 35 bcmpOK hv ht (V := A) (l := b.chg ++ b.zeros b.chg) (len := b.chg.length + (b.zeros b.chg).length) rfl rfl rfl rfl rfl rfl rfl (by rw [List.length_append]) hA hz.len (fun x hx y hy => sz2 (hz.mo x hx).2.1 (hz.mo y hy).2.1 (by decide)) ?_
  refine wl_nil ?_
  obtain ⟨pa, cap, junk⟩ := A
  cases pa with
  | none => have := hA.nil rfl; omega
  | some gA =>
  obtain ⟨a, l, hal⟩ : ∃ a l, b.places = a :: l := by
    unfold BmP.places
    cases h : sortQ (b.chg ++ b.zeros b.chg) with
    | nil => rw [h] at hsl; simp at hsl; omega
    | cons a l => exact ⟨a, l, rfl⟩
  have hal' : sortQ (b.chg ++ b.zeros b.chg) = a :: l := hal
  have hwh : b.where_ = bestQ b.moment a l := by unfold BmP.where_; rw [hal]
  have hmem : ∀ x ∈ a :: l, x ∈ b.chg ++ b.zeros b.chg := fun x hx => by rw [← hal'] at hx; exact mem_sortQ.1 hx
  have hl : b.chg.length + (b.zeros b.chg).length = l.length + 1 := by rw [hal'] at hsl; simpa using hsl.symm
  obtain ⟨c1, c2, c3⟩ := hA.cap (by simp)
  have c1 : b.chg.length + (b.zeros b.chg).length ≤ cap := c1
  rw [hl] at c1
  refine ne_bx (bxs' := [bmB b1 b p m q n, P.bc, P.bz, plB b5 (.slice (some ⟨P.g, 0, none⟩) b.chg.length P.cap) ((.slice (vAdr P.z) (b.zeros b.chg).length (vCap P.z))), ⟨bL, 66, [.slice (some ⟨P.g, 0, none⟩) b.chg.length P.cap, (.slice (vAdr P.z) (b.zeros b.chg).length (vCap P.z))], true, none⟩, ⟨gA, 27, nS (a :: l) ++ junk, true, none⟩]) (by rw [← hal']; rfl) ?_
  have hma := hz.mo a (hmem a (List.mem_cons_self ..))
  refine zE ?_
  refine zA ?_
  refine zT Tryz.mixed (by kernel_rfl) ?_
  refine wq_loadBx 0 Tryz.hT rfl rfl rfl rfl rfl rfl rfl rfl ?_
  refine wq_pure Tryz.hT rfl rfl rfl ?_
  refine wq_upd 26 (.slice (some ⟨gA, 0, none⟩) (l.length + 1) cap) rfl (by rw [← hl]; rfl) ?_
  refine wq_indexAddr Tryz.hT rfl rfl rfl rfl rfl rfl rfl (by omega) (by omega) ?_
  refine wq_load rfl rfl rfl rfl (fun W hp => RowAt.load 0 Tryz.hT rfl ((fun W1 hp => show RowAt W1 gA (0 + 0 * 1) [str (numS a)] from nS_at (l := a :: l) (i := 0) hp 5 rfl (Nat.succ_pos _)) W hp) rfl) ?_
  refine wq_call1 rfl rfl rfl rfl rfl rfl (by kernel_rfl) (fun W1 hp => moment_gives b a p q m n W1 (hM.hp hp) hma.1) ?_
  refine wq_pure Tryz.hT rfl rfl rfl ?_
  refine wq_upd 30 (.slice (some ⟨gA, 0, none⟩) (l.length + 1) cap) rfl (by rw [← hl]; rfl) ?_
  refine wq_indexAddr Tryz.hT rfl rfl rfl rfl rfl rfl rfl (by omega) (by omega) ?_
  refine wq_load rfl rfl rfl rfl (fun W hp => RowAt.load 0 Tryz.hT rfl ((fun W1 hp => show RowAt W1 gA (0 + 0 * 1) [str (numS a)] from nS_at (l := a :: l) (i := 0) hp 5 rfl (Nat.succ_pos _)) W hp) rfl) ?_
  iterate 2 refine wq_pure Tryz.hT rfl rfl rfl ?_
  refine wq_nil ?_
  refine wl_nil ?_
  refine zE ?_
  iterate 2 refine zA ?_
  refine zB ?_
  refine wl_pure Tryz.hT rfl rfl rfl ?_
  refine wl_upd 33 (.slice (some ⟨gA, 0, none⟩) (l.length + 1) cap) rfl (by rw [← hl]; rfl) ?_
  refine wl_slice_l 1 Tryz.hT rfl rfl rfl rfl rfl rfl rfl rfl (by omega) c1 ?_
  obtain ⟨off, hoff⟩ : ∃ off, off = (if cap = 1 then 0 else 0 + 1 * 1) := ⟨_, rfl⟩
  refine wl_upd 34 (.slice (some ⟨gA, off, none⟩) l.length (cap - 1)) rfl (by rw [hoff]; rfl) ?_
  iterate 2 refine wl_pure Tryz.hT rfl rfl rfl ?_
  refine wl_nil ?_
  refine zE ?_
  refine zH ?_
  refine wc_loop (X := Nat) (fun i => [(1, selfP b1), (7, str (numS (b.moment (bestQ b.moment a (l.take i))))), (8, str (numS (bestQ b.moment a (l.take i)))), (34, .slice (some ⟨gA, off, none⟩) l.length (cap - 1)), (35, .int .i64 (l.length : Nat)), (36, .int .i64 (i : Nat))]) (fun _ => [bmB b1 b p m q n, P.bc, P.bz, plB b5 (.slice (some ⟨P.g, 0, none⟩) b.chg.length P.cap) (.slice (vAdr P.z) (b.zeros b.chg).length (vCap P.z)), ⟨bL, 66, [.slice (some ⟨P.g, 0, none⟩) b.chg.length P.cap, .slice (vAdr P.z) (b.zeros b.chg).length (vCap P.z)], true, none⟩, ⟨gA, 27, nS (a :: l) ++ junk, true, none⟩])
    (fun i => i ≤ l.length) (fun i => l.length - i) 0 (Nat.zero_le _) ⟨rfl, rfl, rfl, rfl, rfl, rfl, trivial⟩ [] rfl ?_
  intro i hi
  have hi : i ≤ l.length := hi
  refine zA ?_
  refine zB ?_
  refine wl_pure Tryz.hT rfl rfl rfl ?_
  by_cases hlt : i < l.length
  · refine wl_upd 37 (.bool true) rfl (congrArg Value.bool (decide_eq_true (by omega))) ?_
    refine wl_nil ?_
    refine zE ?_
    refine zA ?_
    refine zR rfl ?_
    refine zI ?_
    refine zE ?_
    refine zA ?_
    refine zH ?_
    refine zA ?_
    refine zB ?_
    have hoff1 : off = 1 * 1 := by rw [hoff, if_neg (by omega)]
    obtain ⟨x, hx⟩ : ∃ x, x = l[i] := ⟨_, rfl⟩
    obtain ⟨w, hw⟩ : ∃ w, w = bestQ b.moment a (l.take i) := ⟨_, rfl⟩
    have hsuc := bestQ_take (m := b.moment) (w := a) hlt
    rw [← hx, ← hw] at hsuc
    rw [← hw]
    have hmx := hz.mo x (hmem x (List.mem_cons_of_mem _ (hx ▸ List.getElem_mem hlt)))
    have hmw := hz.mo w (hmem w (by
      rw [hw]
      rcases List.mem_cons.1 (bestQ_mem b.moment (l.take i) a) with h | h
      · rw [h]; exact List.mem_cons_self ..
      · exact List.mem_cons_of_mem _ (List.mem_of_mem_take h)))
    refine wl_indexAddr Tryz.hT rfl rfl rfl rfl rfl rfl rfl (by omega) (by omega) ?_
    refine wl_load rfl rfl rfl rfl (fun W hp => RowAt.load 0 Tryz.hT rfl ((fun W1 hp => show RowAt W1 gA (off + i * 1) [str (numS x)] by rw [hx]; exact nS_tail hp 5 hoff1 rfl hlt) W hp) rfl) ?_
    refine wl_pure Tryz.hT rfl rfl rfl ?_
    refine wl_nil ?_
    refine zE ?_
    refine zA ?_
    refine zB ?_
    refine wl_loadBx 0 Tryz.hT rfl rfl rfl rfl rfl rfl rfl rfl ?_
    refine wl_pure Tryz.hT rfl rfl rfl ?_
    refine wl_call1 rfl rfl rfl rfl rfl rfl (by kernel_rfl) (fun W1 hp => moment_gives b x p q m n W1 (hM.hp hp) hmx.1) ?_
    refine wl_pure Tryz.hT rfl rfl rfl ?_
    refine wl_nil ?_
    refine zE ?_
    refine zA ?_
    refine zB ?_
    iterate 2 refine wl_pure Tryz.hT rfl rfl rfl ?_
    refine wl_call1 rfl rfl rfl rfl rfl rfl (by kernel_rfl) (fun W1 hp => bcompare_gives (b.moment x) (b.moment w) (sz2 hmx.2.2 hmw.2.2 (by decide)) W1 (hv.hp hp) (ht.hp hp)) ?_
    refine wl_pure Tryz.hT rfl rfl rfl ?_
    refine wl_upd 46 (.bool (decide (b.moment w < b.moment x))) rfl (congrArg Value.bool (cmpQ_gt0 (b.moment x) (b.moment w))) ?_
    refine wl_nil ?_
    refine zE ?_
    refine wc_cond rfl (fun h => ?_) (fun h => ?_)
    · have hc : b.moment w < b.moment x := of_decide_eq_true h
      clear h
      rw [if_pos hc] at hsuc
      refine zB ?_
      iterate 4 refine wl_pure Tryz.hT rfl rfl rfl ?_
      refine wl_nil ?_
      refine zN ?_
      refine zE ?_
      refine zB ?_
      refine wl_pure Tryz.hT rfl rfl rfl ?_
      refine wl_upd 49 (.int .i64 ((i + 1 : Nat) : Int)) rfl (congrArg (Value.int .i64) (w64_succ (by omega))) ?_
      refine wl_pure Tryz.hT rfl rfl rfl ?_
      refine wl_nil ?_
      exact ne_loop (i + 1) hlt (by show l.length - (i + 1) < l.length - i; omega) ⟨rfl, by rw [hsuc]; rfl, by rw [hsuc]; rfl, rfl, rfl, rfl, trivial⟩ [] rfl
    · have hc : ¬ b.moment w < b.moment x := of_decide_eq_false h
      clear h
      rw [if_neg hc] at hsuc
      refine zI ?_
      refine zN ?_
      refine zE ?_
      refine zB ?_
      refine wl_pure Tryz.hT rfl rfl rfl ?_
      refine wl_upd 49 (.int .i64 ((i + 1 : Nat) : Int)) rfl (congrArg (Value.int .i64) (w64_succ (by omega))) ?_
      refine wl_pure Tryz.hT rfl rfl rfl ?_
      refine wl_nil ?_
      exact ne_loop (i + 1) hlt (by show l.length - (i + 1) < l.length - i; omega) ⟨rfl, by rw [hsuc]; rfl, by rw [hsuc]; rfl, rfl, rfl, rfl, trivial⟩ [] rfl
  have e : i = l.length := by omega
  subst e
  rw [List.take_length, ← hwh]
  refine wl_upd 37 (.bool false) rfl (congrArg Value.bool (decide_eq_false (by omega))) ?_
  refine wl_nil ?_
  refine zE ?_
  refine zA ?_
  refine zS rfl ?_
  refine zJ ?_
  iterate 2 refine zK ?_
  refine zL ?_
  refine zE ?_
  refine zA ?_
  refine zB ?_
  iterate 5 refine wl_pure Tryz.hT rfl rfl rfl ?_
  refine wl_nil ?_
  refine zE ?_
  refine zO ?_
  exact ne_ret3 Tryz.hT rfl (.tmp rfl) (.tmp rfl) (.tmp rfl) () rfl trivial fun W _ => NewBx.nil _ _
end Go.Proofs.YtddadjbflgdomaaGreatDoor
namespace Go.Proofs.YtddadjbflgdomaaGreatDoor
set_option maxRecDepth 10000
/-- A beam of small halves. -/
structure BmG (b : BmP) : Prop where
  hf : b.Hf
  lies : b.Lies
  span : ∃ c, b.Span c
theorem SmB.span (x : SmB) : x.of.Span (x.r - x.l) := by
  have h1 := x.n_rng
  have h2 := x.r_rng
  refine ⟨by omega, by omega, ?_⟩
  show nrm (x.r : Int) 2 - nrm (x.l : Int) 2 = _
  rw [half_eq, half_eq]
  have e : (((x.r - x.l : Nat) : Int) : Rat) = ((x.r : Int) : Rat) - ((x.l : Int) : Rat) := by
    rw [← Rat.intCast_sub]; congr 1; omega
  rw [e]
  have e2 : ((2 : Nat) : Rat) = 2 := rfl
  rw [e2]
  grind
theorem SmB.good {x : SmB} (h : x.OK) : BmG x.of := ⟨SmB.hf h, x.lies, _, x.span⟩
theorem BmG.chk {b : BmP} (h : BmG b) : BmC b := fit_check h.hf h.lies
theorem BmG.rc {b : BmP} (h : BmG b) : RcZ b := by
  obtain ⟨c, hc⟩ := h.span
  exact fit_rc h.hf h.lies hc
theorem BmG.sh {b : BmP} (h : BmG b) {x : Rat} (D : Nat) (h0 : 0 < D) (hD : D ≤ dMax) (hx : InD (2 * D) (100 * D) x) : ShZ b x ∧ szQ (b.shear x) 40 := by
  obtain ⟨c, hc⟩ := h.span
  have hc1 := hc.pos
  have hc2 := hc.le
  refine ⟨fit_sh h.hf h.lies hc h0 hD hx, ?_⟩
  rw [shear_acc]
  exact (Hf_shear h.hf hc h0 hx (List.append_nil (b.pts x)).symm).z40 (pos_mul (by omega) h0) (Nat.lt_of_le_of_lt (le16 hc2 hD) (by decide)) (Nat.lt_of_le_of_lt (Nat.mul_le_mul_left _ hD) (by decide))
theorem BmG.mo {b : BmP} (h : BmG b) {x : Rat} (D : Nat) (h0 : 0 < D) (hD : D ≤ dMax) (hx : InD (2 * D) (100 * D) x) : MoZ b x ∧ szQ (b.moment x) 40 := by
  obtain ⟨c, hc⟩ := h.span
  have hc1 := hc.pos
  have hc2 := hc.le
  refine ⟨fit_mo h.hf h.lies hc h0 hD hx, ?_⟩
  rw [moment_acc]
  exact (Hf_moment h.hf hc h0 hx (List.append_nil (b.pts x)).symm).z40 (pos_mul (pos_mul (by omega) (by omega)) h0) (Nat.lt_of_le_of_lt (Nat.mul_le_mul (le32 hc2 hD) hD) (by decide)) (Nat.lt_of_le_of_lt (Nat.mul_le_mul_left _ (Nat.mul_le_mul hD hD)) (by decide))
theorem BmG.pl {b : BmP} {x : Rat} (D : Nat) (h0 : 0 < D) (hD : D ≤ dMax) (hx : InD (2 * D) (100 * D) x) (x0 : 0 ≤ x) (x1 : x ≤ b.len) : PlQ b x := ⟨(fit_x h0 hD hx).mono (by decide), x0, x1⟩
theorem BmG.ends {b : BmP} (h : BmG b) : szQ b.left 40 ∧ szQ b.right 40 ∧ szQ b.total 40 := by
  obtain ⟨c, hc⟩ := h.span
  obtain ⟨h1, h2⟩ := fit_ends h.hf hc
  exact ⟨h1, h2, (Hf_total h.hf).z40 (by decide) (by decide) (by decide)⟩
theorem InD.half1 {q : Rat} (h : InD 2 50 q) : InD (2 * 1) (100 * 1) q := h.mono (by decide)
theorem InD.le {D M M' : Nat} {p q : Rat} (hp : InD D M p) (hq : InD D M' q) (hD : 0 < D) (h0 : 0 ≤ p) (h1 : p ≤ q) : InD D M' p := by
  obtain ⟨z, rfl, _⟩ := hp
  obtain ⟨y, rfl, hy⟩ := hq
  have hn := natCast_ne hD
  have hDp : (0 : Rat) < (D : Rat) := by
    have : ((0 : Int) : Rat) < ((D : Int) : Rat) := Rat.intCast_lt_intCast.2 (by omega)
    exact this
  have e1 : (z : Rat) / (D : Rat) * (D : Rat) = z := Rat.div_mul_cancel hn
  have e2 : (y : Rat) / (D : Rat) * (D : Rat) = y := Rat.div_mul_cancel hn
  have a0 : ((0 : Int) : Rat) ≤ (z : Rat) := by rw [← e1]; exact Rat.mul_nonneg h0 (Rat.le_of_lt hDp)
  have a1 : (z : Rat) ≤ (y : Rat) := by rw [← e1, ← e2]; exact Rat.mul_le_mul_of_nonneg_right h1 (Rat.le_of_lt hDp)
  have b0 := Rat.intCast_le_intCast.1 a0
  have b1 := Rat.intCast_le_intCast.1 a1
  exact ⟨z, rfl, by omega⟩
theorem ldAt_in (p q : Rat) : ∀ l : List (Rat × Rat × Rat), (∀ s ∈ l, InD 2 128 s.2.2) → InD 2 (128 * l.length) (ldAt p q l)
  | [], _ => InD.zero 2
  | s :: l, h => by
    have h1 : InD 2 128 (if s.1 ≤ p ∧ q ≤ s.2.1 then s.2.2 else 0) := by
      split
      · exact h s (List.mem_cons_self ..)
      · exact (InD.zero 2).mono (Nat.zero_le _)
    have h2 := ldAt_in p q l fun t ht => h t (List.mem_cons_of_mem _ ht)
    exact (h1.add h2).mono (by rw [List.length_cons]; omega)
theorem zeros_of (b : BmP) {z : Rat} : ∀ c : List Rat, z ∈ b.zeros c → ∃ p ∈ c, ∃ q ∈ c, z ∈ b.zero1 p q
  | [], h => absurd h List.not_mem_nil
  | [p], h => absurd h List.not_mem_nil
  | p :: q :: l, h => by
    rcases List.mem_append.1 h with h | h
    · exact ⟨p, List.mem_cons_self .., q, List.mem_cons_of_mem _ (List.mem_cons_self ..), h⟩
    · obtain ⟨x, hx, y, hy, hz⟩ := zeros_of b (q :: l) h
      exact ⟨x, List.mem_cons_of_mem _ hx, y, List.mem_cons_of_mem _ hy, hz⟩
theorem BmG.ch {b : BmP} (h : BmG b) {p : Rat} (hp : p ∈ b.chg) : InD 2 50 p := by
  have hf := h.hf
  rcases mem_chg.1 hp with rfl | rfl | rfl | rfl | ⟨f, hm, rfl⟩ | ⟨s, hm, rfl | rfl⟩
  · exact (InD.zero 2).mono (Nat.zero_le _)
  · exact hf.len
  · exact hf.l
  · exact hf.r
  · exact hf.f1 f hm
  · exact hf.s1 s hm
  · exact hf.s2 s hm
theorem BmG.zeroD {b : BmP} (h : BmG b) {z : Rat} (hz : z ∈ b.zeros b.chg) : ∃ D, 0 < D ∧ D ≤ dMax ∧ InD (2 * D) (100 * D) z := by
  obtain ⟨p, hp, q, hq, hm⟩ := zeros_of b b.chg hz
  obtain ⟨x, hx, y, hy, h1, h2⟩ := zeros_in b b.chg hz
  have z0 : 0 ≤ z := Rat.le_trans (chg_in h.lies hx).1 (Rat.le_of_lt h1)
  have z1 : z ≤ b.len := Rat.le_trans (Rat.le_of_lt h2) (chg_in h.lies hy).2
  have hf := h.hf
  unfold BmP.zero1 at hm
  by_cases hK : ldAt p q b.ss = 0
  · rw [if_pos hK] at hm; exact absurd hm List.not_mem_nil
  rw [if_neg hK] at hm
  have hzz : z = p + b.shear p / ldAt p q b.ss := by
    split at hm
    · exact List.mem_singleton.1 hm
    · exact absurd hm List.not_mem_nil
  have hn := hf.sn
  obtain ⟨k, hk, hk1⟩ := ldAt_in p q b.ss hf.s3
  have hk0 : k ≠ 0 := fun e => hK (by rw [hk, e, Rat.div_def]; exact Rat.zero_mul _)
  obtain ⟨c, hc⟩ := h.span
  have hc1 := hc.pos
  have hc2 := hc.le
  have hs : InD (16 * c * 1) (20000000000 * 1) (b.shear p) := by
    rw [shear_acc]
    exact Hf_shear hf hc (by decide) (h.ch hp).half1 (List.append_nil (b.pts p)).symm
  have hd := hs.div (D' := 2) (y := k) (by omega) (by decide) hk0 rfl
  rw [← hk] at hd
  have hkp : 0 < k.natAbs := by omega
  obtain ⟨D, hD⟩ : ∃ D, D = 8 * c * k.natAbs := ⟨_, rfl⟩
  have hD0 : 0 < D := by rw [hD]; exact pos_mul (by omega) hkp
  have hD1 : D ≤ 400 * 1024 := by rw [hD]; exact Nat.mul_le_mul (by omega) (by omega)
  have e : 16 * c * 1 * k.natAbs = 2 * D := by rw [hD, Nat.mul_one, ← Nat.mul_assoc, ← Nat.mul_assoc]
  rw [e] at hd
  have hw := ((h.ch hp).up (by decide) D hD0).add hd
  rw [← hzz] at hw
  exact ⟨D, hD0, Nat.le_trans hD1 (by decide), (hw.le (hf.len.up (by decide) D hD0) (by omega) z0 z1).mono (Nat.mul_le_mul_right _ (by decide))⟩
theorem BmG.of {b : BmP} (h : BmG b) (hl : 4 + b.fs.length + 2 * b.ss.length ≤ 12) : OfZ b := by
  have hf := h.hf
  obtain ⟨_, _, _, _, zs⟩ := Hf_z hf
  have hn := hf.sn
  refine ⟨hl, fun p hp => ?_, fun p hp => ?_, zs, fun p q j => ?_⟩
  · obtain ⟨h1, h2⟩ := h.sh 1 (by decide) (by decide) (h.ch hp).half1
    exact ⟨h1, h2.mono (by decide)⟩
  · have hp' : p ∈ b.chg := by rw [chS_all]; exact (mem_compQ _).2 (mem_sortQ.2 hp)
    exact (h.ch hp').z40 (by decide) (by decide) (by decide)
  · have h1 := ldAt_in p q (b.ss.take j) fun s hs => hf.s3 s (List.mem_of_mem_take hs)
    have h2 : (b.ss.take j).length ≤ b.ss.length := by rw [List.length_take]; omega
    exact h1.z40 (by decide) (by decide) (Nat.lt_of_le_of_lt (show 128 * (b.ss.take j).length ≤ 1024 by omega) (by decide))
theorem BmG.gr {b : BmP} (h : BmG b) (hl : 4 + b.fs.length + 2 * b.ss.length ≤ 6) : GrZ b := by
  have h1 := zeros_len b b.chg
  have h2 : b.chg.length ≤ 6 := by
    have := compQ_len (sortQ (chS b b.ss.length))
    rw [← chS_all, sortQ_len, chS_len] at this; omega
  refine ⟨h.chk, h.of (by omega), fun x hx => ?_, by rw [List.length_append]; omega⟩
  obtain ⟨D, h0, hD, hi⟩ : ∃ D, 0 < D ∧ D ≤ dMax ∧ InD (2 * D) (100 * D) x := by
    rcases List.mem_append.1 hx with hx | hx
    · exact ⟨1, by decide, by decide, (h.ch hx).half1⟩
    · exact h.zeroD hx
  obtain ⟨a1, a2⟩ := h.mo D h0 hD hi
  exact ⟨a1, (fit_x h0 hD hi).mono (by decide), a2.mono (by decide)⟩
end Go.Proofs.YtddadjbflgdomaaGreatDoor
namespace Go.Proofs.YtddadjbflgdomaaGreatDoor
open Go Go.RowKit Go.Am Go.Lib
set_option maxRecDepth 10000
-- BOXES 4
def awA : BmP := ⟨q2 4 1, q2 0 1, q2 4 1, [(q2 1 1, q2 8 1)], []⟩
def awB : BmP := ⟨q2 4 1, q2 0 1, q2 4 1, [], [(q2 0 1, q2 4 1, q2 2 1)]⟩
theorem ns4 : numS (q2 4 1) = [52] := by rw [numS, parS, if_pos rfl]; exact (it_pos 4).trans (dd1 4 (by decide))
theorem inD2 {q : Rat} {M : Nat} (z : Int) (e : q = (z : Rat) / ((2 : Nat) : Rat)) (h : z.natAbs ≤ M) : InD 2 M q := ⟨z, e, h⟩
theorem awA_good : BmG awA := by
  have h4 : InD 2 50 (q2 4 1) := inD2 8 (by decide +kernel) (by decide)
  have h0 : InD 2 50 (q2 0 1) := inD2 0 (by decide +kernel) (by decide)
  have h1 : InD 2 50 (q2 1 1) := inD2 2 (by decide +kernel) (by decide)
  have h8 : InD 2 128 (q2 8 1) := inD2 16 (by decide +kernel) (by decide)
  have f1 : ∀ {P : Rat × Rat → Prop}, P (q2 1 1, q2 8 1) → ∀ f ∈ awA.fs, P f := fun h f hm => by
    obtain rfl := List.mem_singleton.1 hm; exact h
  have s1 : ∀ {P : Rat × Rat × Rat → Prop}, ∀ f ∈ awA.ss, P f := fun f hm => absurd hm List.not_mem_nil
  exact ⟨⟨h4, h0, h4, f1 h1, f1 h8, s1, s1, s1, by decide, by decide⟩, ⟨by decide +kernel, by decide +kernel, by decide +kernel, by decide +kernel, f1 (by decide +kernel), f1 (by decide +kernel), s1, s1, s1⟩, 8, by decide, by decide, by decide +kernel⟩
theorem awB_good : BmG awB := by
  have h4 : InD 2 50 (q2 4 1) := inD2 8 (by decide +kernel) (by decide)
  have h0 : InD 2 50 (q2 0 1) := inD2 0 (by decide +kernel) (by decide)
  have h2 : InD 2 128 (q2 2 1) := inD2 4 (by decide +kernel) (by decide)
  have s1 : ∀ {P : Rat × Rat × Rat → Prop}, P (q2 0 1, q2 4 1, q2 2 1) → ∀ f ∈ awB.ss, P f := fun h f hm => by
    obtain rfl := List.mem_singleton.1 hm; exact h
  have f1 : ∀ {P : Rat × Rat → Prop}, ∀ f ∈ awB.fs, P f := fun f hm => absurd hm List.not_mem_nil
  exact ⟨⟨h4, h0, h4, f1, f1, s1 h0, s1 h4, s1 h2, by decide, by decide⟩, ⟨by decide +kernel, by decide +kernel, by decide +kernel, by decide +kernel, f1, f1, s1 (by decide +kernel), s1 (by decide +kernel), s1 (by decide +kernel)⟩, 8, by decide, by decide, by decide +kernel⟩
theorem awA_v (p q : Option Addr) (m n : Nat) : bmV awA p m q n = .agg #[str [52], str [48], str [52], .slice p 1 m, .slice q 0 n] := by
  show Value.agg #[str (numS (q2 4 1)), str (numS (q2 0 1)), str (numS (q2 4 1)), .slice p 1 m, .slice q 0 n] = _
  rw [ns4, ns0]
theorem awB_v (p q : Option Addr) (m n : Nat) : bmV awB p m q n = .agg #[str [52], str [48], str [52], .slice p 0 m, .slice q 1 n] := by
  show Value.agg #[str (numS (q2 4 1)), str (numS (q2 0 1)), str (numS (q2 4 1)), .slice p 0 m, .slice q 1 n] = _
  rw [ns4, ns0]
theorem awA_m {W : World} {g : Nat} (h : RowAt W g 0 [str [49], str [56]]) (hv : MaxP W) (ht : TabP W) : BmM W awA (some ⟨g, 0, none⟩) none := by
  refine ⟨.inr ⟨g, 0, rfl, fun i hi => ?_⟩, .inl rfl, hv, ht⟩
  have hi : i < 1 := hi
  obtain rfl : i = 0 := by omega
  show RowAt W g 0 [str (numS (q2 1 1)), str (numS (q2 8 1))]
  rw [ns1, ns8]; exact h
theorem awB_m {W : World} {g : Nat} (h : RowAt W g 0 [str [48], str [52], str [50]]) (hv : MaxP W) (ht : TabP W) : BmM W awB none (some ⟨g, 0, none⟩) := by
  refine ⟨.inl rfl, .inr ⟨g, 0, rfl, fun i hi => ?_⟩, hv, ht⟩
  have hi : i < 1 := hi
  obtain rfl : i = 0 := by omega
  show RowAt W g 0 [str (numS (q2 0 1)), str (numS (q2 4 1)), str (numS (q2 2 1))]
  rw [ns0, ns4, ns2]; exact h
theorem aw_r (W : World) (g n : Nat) (h : RowAt W g 0 [str [49], str [56]]) (hv : MaxP W) (ht : TabP W) :
    CallsR Tryz.prog 22 #[.agg #[str [52], str [48], str [52], .slice (some ⟨g, 0, none⟩) 1 n, .slice none 0 0]] W (fun _ : Unit => .tuple #[str [54], str [50], .int .i64 0]) (fun _ => True) (fun _ => []) := by
  have h := bReactions_gives awA awA_good.chk awA_good.rc (some ⟨g, 0, none⟩) none n 0 W (awA_m h hv ht)
  rw [awA_v, show awA.left = q2 6 1 by decide +kernel, show awA.right = q2 2 1 by decide +kernel, ns6, ns2] at h
  exact h
theorem aw_gA (W : World) (g n : Nat) (h : RowAt W g 0 [str [49], str [56]]) (hv : MaxP W) (ht : TabP W) :
    CallsR Tryz.prog 11 #[.agg #[str [52], str [48], str [52], .slice (some ⟨g, 0, none⟩) 1 n, .slice none 0 0]] W (fun _ : Unit => .tuple #[str [54], str [49], .int .i64 0]) (fun _ => True) (fun _ => []) := by
  have h := bGreatest_gives awA (awA_good.gr (by decide)) (some ⟨g, 0, none⟩) none n 0 W (awA_m h hv ht)
  rw [awA_v, show awA.where_ = q2 1 1 by decide +kernel, show awA.moment (q2 1 1) = q2 6 1 by decide +kernel, ns6, ns1] at h
  exact h
theorem aw_gB (W : World) (g n : Nat) (h : RowAt W g 0 [str [48], str [52], str [50]]) (hv : MaxP W) (ht : TabP W) :
    CallsR Tryz.prog 11 #[.agg #[str [52], str [48], str [52], .slice none 0 0, .slice (some ⟨g, 0, none⟩) 1 n]] W (fun _ : Unit => .tuple #[str [52], str [50], .int .i64 0]) (fun _ => True) (fun _ => []) := by
  have h := bGreatest_gives awB (awB_good.gr (by decide)) none (some ⟨g, 0, none⟩) 0 n W (awB_m h hv ht)
  rw [awB_v, show awB.where_ = q2 2 1 by decide +kernel, show awB.moment (q2 2 1) = q2 4 1 by decide +kernel, ns4, ns2] at h
  exact h
theorem strEqL (a b : List UInt8) (h : a = b) : (((⟨a.toArray⟩ : ByteArray).toList == (⟨b.toArray⟩ : ByteArray).toList)) = true := (strEqB a b).trans (decide_eq_true h)
set_option maxHeartbeats 8000000 in
theorem awakeB_gives (W : World) (hv : MaxP W) (ht : TabP W) : CallsR Tryz.prog 15 #[] W (fun _ : Unit => .bool true) (fun _ => True) (fun _ => []) := by
  refine calls_enter (args := []) Tryz.func15 rfl rfl rfl ?_
  refine zA ?_
  refine zB ?_
  refine wl_pure Tryz.hT rfl rfl rfl ?_
  refine wl_nil ?_
  refine zE ?_
  refine zA ?_
  refine zB ?_
  refine wl_buildZ Tryz.hZ Tryz.hT rfl rfl rfl rfl rfl rfl rfl rfl ?_
  (refine wl_buildRowZ Tryz.hZ Tryz.hT rfl rfl rfl rfl rfl rfl rfl rfl rfl rfl rfl ?_; intro)
  refine wl_buildZ Tryz.hZ Tryz.hT rfl rfl rfl rfl rfl rfl rfl rfl ?_
  (refine wl_allocZ Tryz.hZ rfl rfl rfl rfl ?_; intro)
  refine wl_storeBx 1 Tryz.hT rfl rfl rfl rfl rfl rfl rfl rfl rfl rfl rfl ?_
  refine wl_nil ?_
  rename_i bF b1
  refine zE ?_
  refine zA ?_
  refine zB ?_
  refine wl_loadBx 1 Tryz.hT rfl rfl rfl rfl rfl rfl rfl rfl ?_
  refine wl_call1 rfl rfl rfl rfl rfl rfl (by kernel_rfl) (fun W hp => aw_r W bF 1 (RowAt.of_bx hp 0 rfl rfl) (hv.hp hp) (ht.hp hp)) ?_
  iterate 7 refine wl_pure Tryz.hT rfl rfl rfl ?_
  refine wl_nil ?_
  refine zE ?_
  refine zA ?_
  refine zB ?_
  refine wl_loadBx 1 Tryz.hT rfl rfl rfl rfl rfl rfl rfl rfl ?_
  refine wl_call1 rfl rfl rfl rfl rfl rfl (by kernel_rfl) (fun W hp => aw_gA W bF 1 (RowAt.of_bx hp 0 rfl rfl) (hv.hp hp) (ht.hp hp)) ?_
  iterate 7 refine wl_pure Tryz.hT rfl rfl rfl ?_
  refine wl_nil ?_
  refine zE ?_
  refine zA ?_
  refine zB ?_
  refine wl_buildZ Tryz.hZ Tryz.hT rfl rfl rfl rfl rfl rfl rfl rfl ?_
  (refine wl_buildRowZ Tryz.hZ Tryz.hT rfl rfl rfl rfl rfl rfl rfl rfl rfl rfl rfl ?_; intro)
  refine wl_pure Tryz.hT rfl rfl rfl ?_
  refine wl_storeBx 1 Tryz.hT rfl rfl rfl rfl rfl rfl rfl rfl rfl rfl rfl ?_
  refine wl_pure Tryz.hT rfl rfl rfl ?_
  refine wl_storeBx 1 Tryz.hT rfl rfl rfl rfl rfl rfl rfl rfl rfl rfl rfl ?_
  refine wl_nil ?_
  rename_i bS
  refine zE ?_
  refine zA ?_
  refine zB ?_
  refine wl_loadBx 1 Tryz.hT rfl rfl rfl rfl rfl rfl rfl rfl ?_
  refine wl_call1 rfl rfl rfl rfl rfl rfl (by kernel_rfl) (fun W hp => aw_gB W bS 1 (RowAt.of_bx hp 2 rfl rfl) (hv.hp hp) (ht.hp hp)) ?_
  iterate 7 refine wl_pure Tryz.hT rfl rfl rfl ?_
  refine wl_nil ?_
  refine zE ?_
  refine zA ?_
  refine zB ?_
  iterate 8 refine wl_pure Tryz.hT rfl rfl rfl ?_
  refine wl_upd 43 (.bool true) rfl (congrArg Value.bool (strEqL _ _ rfl)) ?_
  iterate 4 refine wl_pure Tryz.hT rfl rfl rfl ?_
  refine wl_upd 47 (.bool true) rfl (congrArg Value.bool (strEqL _ _ rfl)) ?_
  iterate 4 refine wl_pure Tryz.hT rfl rfl rfl ?_
  refine wl_upd 51 (.bool true) rfl (congrArg Value.bool (strEqL _ _ rfl)) ?_
  iterate 4 refine wl_pure Tryz.hT rfl rfl rfl ?_
  refine wl_upd 55 (.bool true) rfl (congrArg Value.bool (strEqL _ _ rfl)) ?_
  iterate 4 refine wl_pure Tryz.hT rfl rfl rfl ?_
  refine wl_upd 59 (.bool true) rfl (congrArg Value.bool (strEqL _ _ rfl)) ?_
  iterate 4 refine wl_pure Tryz.hT rfl rfl rfl ?_
  refine wl_upd 63 (.bool true) rfl (congrArg Value.bool (strEqL _ _ rfl)) ?_
  iterate 2 refine wl_pure Tryz.hT rfl rfl rfl ?_
  refine wl_nil ?_
  refine zE ?_
  refine zO ?_
  exact ne_ret1 Tryz.hT rfl (.tmp rfl) () rfl trivial fun W _ => NewBx.nil _ _
end Go.Proofs.YtddadjbflgdomaaGreatDoor
namespace Go.Proofs.YtddadjbflgdomaaGreatDoor
open Go Go.RowKit Go.Am Go.Lib
set_option maxRecDepth 10000
-- BOXES 4
set_option maxHeartbeats 16000000 in
theorem balance_gives (x : SmB) (p q : Option Addr) (m n : Nat) (W : World) (hM : SmbM W x p q m n) (hv : MaxP W) (ht : TabP W) :
    CallsR Tryz.prog 7 #[smbV x p q m n] W (fun _ : Unit => .bool true) (fun _ => True) (fun _ => []) := by
  have hg := SmB.good hM.ok
  have hC := hg.chk
  have hR := hg.rc
  obtain ⟨e1, e2, e3⟩ := hg.ends
  have hL := hg.lies
  have il := hg.hf.len.half1
  have i0 : InD (2 * 1) (100 * 1) 0 := (InD.zero 2).mono (Nat.zero_le _)
  have len0 := Rat.le_of_lt hL.len
  have pl := BmG.pl (b := x.of) 1 (by decide) (by decide) il len0 Rat.le_refl
  have p0 := BmG.pl (b := x.of) 1 (by decide) (by decide) i0 Rat.le_refl len0
  have ml := (hg.mo 1 (by decide) (by decide) il).1
  have m0 := (hg.mo 1 (by decide) (by decide) i0).1
  have sl := (hg.sh 1 (by decide) (by decide) il).1
  obtain ⟨b, hb⟩ : ∃ b, b = x.of := ⟨_, rfl⟩
  refine calls_enter (args := [smbV x p q m n]) Tryz.func7 rfl rfl rfl ?_
  refine zA ?_
  refine zB ?_
  (refine wl_box rfl rfl rfl rfl ?_; intro)
  refine wl_pure Tryz.hT rfl rfl rfl ?_
  refine wl_nil ?_
  rename_i b1
  refine zE ?_
  refine zA ?_
  refine zB ?_
  refine wl_loadBx 0 Tryz.hT rfl rfl rfl rfl rfl rfl rfl rfl ?_
  refine wl_call (X := BmV x.of) rfl rfl rfl rfl rfl rfl (by kernel_rfl) (fun W hp => lawof_gives x p q m n W (hM.hp hp) (hv.hp hp) (ht.hp hp)) ?_
  intro V _
  iterate 3 refine wl_pure Tryz.hT rfl rfl rfl ?_
  (refine wl_allocZ Tryz.hZ rfl rfl rfl rfl ?_; intro)
  refine wl_storeBx 3 Tryz.hT rfl rfl rfl rfl rfl rfl rfl rfl rfl rfl rfl ?_
  refine wl_pure Tryz.hT rfl rfl rfl ?_
  refine wl_nil ?_
  rename_i b3
  refine zE ?_
  refine zA ?_
  refine zB ?_
  refine wl_loadBx 3 Tryz.hT rfl rfl rfl rfl rfl rfl rfl rfl ?_
  refine wl_call1 rfl rfl rfl rfl rfl rfl (by kernel_rfl) (fun W1 hp => bReactions_gives x.of hC hR (vAdr V.f) (vAdr V.s) (vCap V.f) (vCap V.s) W1 (V.m 1 2 rfl rfl hp hv ht)) ?_
  iterate 7 refine wl_pure Tryz.hT rfl rfl rfl ?_
  refine wl_nil ?_
  refine zE ?_
  refine zA ?_
  refine zB ?_
  refine wl_loadBx 3 Tryz.hT rfl rfl rfl rfl rfl rfl rfl rfl ?_
  refine wl_call1 rfl rfl rfl rfl rfl rfl (by kernel_rfl) (fun W1 hp => bTotal_gives x.of hC hR (vAdr V.f) (vAdr V.s) (vCap V.f) (vCap V.s) W1 (V.m 1 2 rfl rfl hp hv ht)) ?_
  iterate 5 refine wl_pure Tryz.hT rfl rfl rfl ?_
  refine wl_nil ?_
  refine zE ?_
  refine zA ?_
  refine zB ?_
  iterate 2 refine wl_pure Tryz.hT rfl rfl rfl ?_
  refine wl_call1 rfl rfl rfl rfl rfl rfl (by kernel_rfl) (fun W1 hp => radd_gives x.of.left x.of.right (sz2 e1 e2 (by decide)) W1 (hv.hp hp) (ht.hp hp)) ?_
  iterate 5 refine wl_pure Tryz.hT rfl rfl rfl ?_
  refine wl_nil ?_
  refine zE ?_
  refine zA ?_
  refine zB ?_
  refine wl_loadBx 3 Tryz.hT rfl rfl rfl rfl rfl rfl rfl rfl ?_
  refine wl_pure Tryz.hT rfl rfl rfl ?_
  refine wl_loadBx 3 Tryz.hT rfl rfl rfl rfl rfl rfl rfl rfl ?_
  refine wl_call1 rfl rfl rfl rfl rfl rfl (by kernel_rfl) (fun W1 hp => bMoment_gives x.of hC x.of.len pl ml (vAdr V.f) (vAdr V.s) (vCap V.f) (vCap V.s) W1 (V.m 1 2 rfl rfl hp hv ht)) ?_
  iterate 5 refine wl_pure Tryz.hT rfl rfl rfl ?_
  refine wl_nil ?_
  refine zE ?_
  refine zA ?_
  refine zB ?_
  refine wl_loadBx 3 Tryz.hT rfl rfl rfl rfl rfl rfl rfl rfl ?_
  refine wl_call1 rfl rfl rfl rfl rfl rfl (by kernel_rfl) (fun W1 hp => (by have h := bMoment_gives x.of hC 0 p0 m0 (vAdr V.f) (vAdr V.s) (vCap V.f) (vCap V.s) W1 (V.m 1 2 rfl rfl hp hv ht); rw [numS_zero] at h; exact h)) ?_
  iterate 5 refine wl_pure Tryz.hT rfl rfl rfl ?_
  refine wl_nil ?_
  refine zE ?_
  refine zA ?_
  refine zB ?_
  refine wl_loadBx 3 Tryz.hT rfl rfl rfl rfl rfl rfl rfl rfl ?_
  refine wl_pure Tryz.hT rfl rfl rfl ?_
  refine wl_loadBx 3 Tryz.hT rfl rfl rfl rfl rfl rfl rfl rfl ?_
  refine wl_call1 rfl rfl rfl rfl rfl rfl (by kernel_rfl) (fun W1 hp => bShear_gives x.of hC x.of.len pl sl (vAdr V.f) (vAdr V.s) (vCap V.f) (vCap V.s) W1 (V.m 1 2 rfl rfl hp hv ht)) ?_
  iterate 5 refine wl_pure Tryz.hT rfl rfl rfl ?_
  refine wl_nil ?_
  refine zE ?_
  refine zA ?_
  refine zB ?_
  iterate 15 refine wl_pure Tryz.hT rfl rfl rfl ?_
  refine wl_upd 73 (.bool true) rfl (congrArg Value.bool ((strEqB _ _).trans (decide_eq_true (by rw [bal_sum])))) ?_
  iterate 4 refine wl_pure Tryz.hT rfl rfl rfl ?_
  refine wl_upd 77 (.bool true) rfl (congrArg Value.bool ((strEqB _ _).trans ((numS_eq0 _).trans (decide_eq_true (bal_end hL))))) ?_
  iterate 4 refine wl_pure Tryz.hT rfl rfl rfl ?_
  refine wl_upd 81 (.bool true) rfl (congrArg Value.bool ((strEqB _ _).trans ((numS_eq0 _).trans (decide_eq_true (bal_zero hL))))) ?_
  iterate 4 refine wl_pure Tryz.hT rfl rfl rfl ?_
  refine wl_upd 85 (.bool true) rfl (congrArg Value.bool ((strEqB _ _).trans ((numS_eq0 _).trans (decide_eq_true (bal_shear hL))))) ?_
  iterate 2 refine wl_pure Tryz.hT rfl rfl rfl ?_
  refine wl_call1 rfl rfl rfl rfl rfl rfl (by kernel_rfl) (fun W1 hp => awakeB_gives W1 (hv.hp hp) (ht.hp hp)) ?_
  iterate 2 refine wl_pure Tryz.hT rfl rfl rfl ?_
  refine wl_nil ?_
  refine zE ?_
  refine zO ?_
  exact ne_ret1 Tryz.hT rfl (.tmp rfl) () rfl trivial fun W _ => NewBx.nil _ _
end Go.Proofs.YtddadjbflgdomaaGreatDoor
namespace Go.Proofs.YtddadjbflgdomaaGreatDoor
open Go
/-- The list of the package variables, the same for every law. -/
noncomputable abbrev laidL : List (String × DataW Unit) := Rows.beamSingleRow.laid
end Go.Proofs.YtddadjbflgdomaaGreatDoor
namespace Go.Proofs.YtddadjbflgdomaaGreatDoor
open Go Go.RowKit Go.Am Go.ChangeShapes Go.WideShapes Go.Deep Go.ChangeAt
set_option maxRecDepth 100000
theorem cU8 : Tryz.prog.cellsOf 5 = 1 := by kernel_rfl
section
variable {H : Type} {enc : TypeId × Value → H} {w : World} {base : Nat} {spare : Nat → Bool} {held : Bool} {v : Value} {d : DataW H} {ps : List MemPlace}
theorem open_u8 {fuel : Nat} {u : Value} {x : DataW H × List MemPlace} (h : DataW.trod enc Tryz.prog w base spare held fuel 5 [u] = some x) : ∃ z : Nat, u = .int .u8 (z : Nat) ∧ z < 256 := by
  obtain ⟨z, e, _, hw⟩ := DataW.trod_int Tryz.underlying5 h
  have hr : 0 ≤ z ∧ z ≤ 255 := by simpa [Lit.wf, IntKind.min, IntKind.max, IntKind.signed, IntKind.bits] using hw
  obtain ⟨n, rfl⟩ : ∃ n : Nat, z = n := ⟨z.toNat, by omega⟩
  exact ⟨n, by simpa using e, by omega⟩
end
theorem own : ownKnob Tryz.prog.godebug = none := by kernel_rfl
theorem laidOut : laidOutB Tryz.prog = true := by kernel_rfl
theorem laid_plain : (laidL.all fun x => x.2.handleName?.isNone) = true := by kernel_rfl
theorem tab_of_laid {W : World} (h : laidMetH Tryz.prog laidL W) : TabP W := by
  rw [MakeChecks.laidMetH_plain _ _ _ laid_plain] at h
  exact Lib.tabIs_of_head (g := 0) (t := 208) (e := 156) (n := 20) (by kernel_rfl) (by kernel_rfl) (by kernel_rfl) (by kernel_rfl) (by kernel_rfl) (by kernel_rfl) h.tail.tail
theorem max_of {W : World} (hS : W.ShapedOpen Tryz.prog) : MaxP W :=
  cell_of_shapedOpen_int (g := 1) (t := 3) (zero := #[.int .i64 0]) hS (of_decide_eq_true (by kernel_rfl)) (by kernel_rfl) rfl (by kernel_rfl) (by kernel_rfl) Tryz.underlying3
noncomputable def witW (os : Os) : World := World.laidAll Tryz.prog os laidL
theorem wit_laid (os : Os) (args : Array Value) : laidMetH Tryz.prog laidL ((witW os).forCall (fun _ _ => 0) ⟨#[], args, []⟩).memory := by
  rw [MakeChecks.laidMetH_plain _ _ _ laid_plain]
  exact laidMet_laidAll _ (by kernel_rfl) (by kernel_rfl)
theorem wit_shaped (os : Os) (args : Array Value) : ((witW os).forCall (fun _ _ => 0) ⟨#[], args, []⟩).Shaped Tryz.prog :=
  World.shaped_of_ZipB (by kernel_rfl) (by kernel_rfl)
/-- The witness of a row: its arguments have their types' forms, and the row's side holds. -/
theorem wit_row {H : Type} {enc : TypeId × Value → H} (os : Os) {f : FuncId} {fn : Func} {s : OpenSpec} {conds : List PathCond} (args : Array Value)
    (hok : Input.okWideB Tryz.prog ((witW os).forCall (fun _ _ => 0) ⟨#[], args, []⟩) f ⟨#[], args, []⟩ = true)
    (hrow : s.preRow enc Tryz.prog fn conds false laidL ((witW os).forCall (fun _ _ => 0) ⟨#[], args, []⟩).memory args) :
    ∃ (w : World) (tape : Tape) (i : Input), w.os = os ∧ (w.forCall tape i).Shaped Tryz.prog ∧ i.vars = [] ∧ Input.okWide Tryz.prog (w.forCall tape i) .any w.heap.size f i ∧
      s.preRow enc Tryz.prog fn conds false laidL (w.forCall tape i).memory i.args ∧ ({} : Assume).holds Tryz.prog (lone (Frame.enter Tryz.prog f i.args .normal) [] (w.forCall tape i)) :=
  ⟨witW os, fun _ _ => 0, ⟨#[], args, []⟩, World.laidAll_os _ _ _, wit_shaped os args, (Input.okWide_of_okWideB (base := 0) hok).1, (Input.okWide_of_okWideB hok).2, hrow, by
    simp only [Assume.holds]
    exact ⟨by simp, by simp, by simp, by simp, by simp, by simp⟩⟩
end Go.Proofs.YtddadjbflgdomaaGreatDoor
namespace Go.Proofs.YtddadjbflgdomaaGreatDoor
open Go Go.RowKit Go.Am Go.ChangeShapes Go.WideShapes Go.Deep Go.ChangeAt
set_option maxRecDepth 100000
theorem cI8 : Tryz.prog.cellsOf 48 = 1 := by kernel_rfl
theorem cA2 : Tryz.prog.cellsOf 63 = 2 := by kernel_rfl
theorem cA3 : Tryz.prog.cellsOf 64 = 3 := by kernel_rfl
theorem cS2 : Tryz.prog.cellsOf 22 = 1 := by kernel_rfl
theorem cS3 : Tryz.prog.cellsOf 23 = 1 := by kernel_rfl
theorem cSmB : Tryz.prog.cellsOf 25 = 5 := by kernel_rfl
theorem bm_cell_plain {w : World} {a : Addr} {v : Value} (h : w.cell? a = some v) : a.spot = none ∧ a.block < w.heap.size := by
  unfold World.cell? at h
  split at h
  · rename_i hb
    refine ⟨?_, ?_⟩
    · cases hs : a.spot with
      | none => rfl
      | some k => simp [hs] at h
    · exact (Array.getElem?_eq_some_iff.1 hb).1
  · cases h
theorem bm_open_row {w : World} {base n : Nat} {a : Addr} {cs : List Value} (h : w.cells? base a n = some cs) (hn : 0 < n) : a.spot = none ∧ RowAt w a.block a.off cs := by
  obtain ⟨_, hl, hg⟩ := World.cells?_some h
  have h0 := hg 0 hn
  have hv : cs[0]? = some cs[0] := List.getElem?_eq_getElem (by omega)
  rw [hv] at h0
  have hp := bm_cell_plain h0
  have hs : a.spot = none := by simpa [Addr.add] using hp.1
  refine ⟨hs, ⟨by simpa [Addr.add] using hp.2, fun j x hx => ?_⟩⟩
  have hj : j < n := by rw [← hl]; exact (List.getElem?_eq_some_iff.1 hx).1
  rw [← hx, ← hg j hj]
  congr 1
  unfold Addr.add
  split
  · subst_vars; cases a; simp_all
  · rfl
theorem bm_add_off {a : Addr} (hs : a.spot = none) (n : Nat) : a.add n = ⟨a.block, a.off + n, none⟩ := by
  unfold Addr.add
  split
  · subst_vars; cases a; simp_all
  · rfl
section
variable {H : Type} {enc : TypeId × Value → H} {w : World} {base : Nat} {spare : Nat → Bool} {held : Bool} {fuel : Nat} {cs : List Value} {x : DataW H × List MemPlace}
theorem open_i8 {u : Value} (h : DataW.trod enc Tryz.prog w base spare held fuel 48 [u] = some x) : ∃ z : Int, u = .int .i8 z ∧ -128 ≤ z ∧ z ≤ 127 := by
  obtain ⟨z, e, _, hw⟩ := DataW.trod_int Tryz.underlying48 h
  exact ⟨z, by simpa using e, bounds_i8 hw⟩
theorem open_pair (h : DataW.trod enc Tryz.prog w base spare held fuel 63 cs = some x) : ∃ a b : Int, cs = [.int .i8 a, .int .i8 b] ∧ (-128 ≤ a ∧ a ≤ 127) ∧ (-128 ≤ b ∧ b ≤ 127) := by
  obtain ⟨xs, m, rfl, rfl, hl, hn, hg⟩ := DataW.trod_array Tryz.underlying63 h
  rw [cA2] at hl
  match cs, hl with
  | [u, v], _ =>
    match xs, hn with
    | [y0, y1], _ =>
      have h0 : DataW.trod enc Tryz.prog w base spare held m 48 (([u, v].drop (0 * Tryz.prog.cellsOf 48)).take (Tryz.prog.cellsOf 48)) = some y0 := hg 0 (by decide)
      have h1 : DataW.trod enc Tryz.prog w base spare held m 48 (([u, v].drop (1 * Tryz.prog.cellsOf 48)).take (Tryz.prog.cellsOf 48)) = some y1 := hg 1 (by decide)
      rw [cI8] at h0 h1
      obtain ⟨a, rfl, ha⟩ := open_i8 h0
      obtain ⟨b, rfl, hb⟩ := open_i8 h1
      exact ⟨a, b, rfl, ha, hb⟩
theorem open_three (h : DataW.trod enc Tryz.prog w base spare held fuel 64 cs = some x) : ∃ a b c : Int, cs = [.int .i8 a, .int .i8 b, .int .i8 c] ∧ (-128 ≤ a ∧ a ≤ 127) ∧ (-128 ≤ b ∧ b ≤ 127) ∧ (-128 ≤ c ∧ c ≤ 127) := by
  obtain ⟨xs, m, rfl, rfl, hl, hn, hg⟩ := DataW.trod_array Tryz.underlying64 h
  rw [cA3] at hl
  match cs, hl with
  | [u, v, t], _ =>
    match xs, hn with
    | [y0, y1, y2], _ =>
      have h0 : DataW.trod enc Tryz.prog w base spare held m 48 (([u, v, t].drop (0 * Tryz.prog.cellsOf 48)).take (Tryz.prog.cellsOf 48)) = some y0 := hg 0 (by decide)
      have h1 : DataW.trod enc Tryz.prog w base spare held m 48 (([u, v, t].drop (1 * Tryz.prog.cellsOf 48)).take (Tryz.prog.cellsOf 48)) = some y1 := hg 1 (by decide)
      have h2 : DataW.trod enc Tryz.prog w base spare held m 48 (([u, v, t].drop (2 * Tryz.prog.cellsOf 48)).take (Tryz.prog.cellsOf 48)) = some y2 := hg 2 (by decide)
      rw [cI8] at h0 h1 h2
      obtain ⟨a, rfl, ha⟩ := open_i8 h0
      obtain ⟨b, rfl, hb⟩ := open_i8 h1
      obtain ⟨c, rfl, hc⟩ := open_i8 h2
      exact ⟨a, b, c, rfl, ha, hb, hc⟩
theorem open_pairs (h : DataW.trod enc Tryz.prog w base spare held fuel 22 cs = some x) :
    ∃ (p : Option Addr) (cap : Nat) (l : List (Int × Int)), cs = [.slice p l.length cap] ∧ PairsP w p l ∧ (∀ f ∈ l, (-128 ≤ f.1 ∧ f.1 ≤ 127) ∧ (-128 ≤ f.2 ∧ f.2 ≤ 127)) ∧ l.length ≤ cap := by
  rcases open_slice Tryz.underlying22 h with ⟨rfl, rfl⟩ | ⟨a, len, cap, m, n, D, Pl, rfl, _, hl, _, hm, rfl, hx⟩
  · exact ⟨none, 0, [], rfl, .inl rfl, fun _ h => absurd h List.not_mem_nil, Nat.le_refl _⟩
  have hlm : len ≤ m := by rw [hm]; split <;> omega
  obtain ⟨S, hS⟩ := choose_lt (α := Int × Int) (n := len) (p := fun i s => w.cells? base (a.add (i * 2)) 2 = some [.int .i8 s.1, .int .i8 s.2] ∧ (-128 ≤ s.1 ∧ s.1 ≤ 127) ∧ (-128 ≤ s.2 ∧ s.2 ≤ 127)) fun i hi => by
    obtain ⟨cs', h1, h2⟩ := hx i (by omega)
    rw [cA2] at h1
    obtain ⟨u, v, rfl, h3⟩ := open_pair h2
    exact ⟨(u, v), h1, h3⟩
  refine ⟨some a, cap, (List.range len).map S, by simp, ?_, ?_, by simpa using hl⟩
  · by_cases h0 : len = 0
    · subst h0; exact .inl rfl
    · have hs : a.spot = none := by simpa [Addr.add] using (bm_open_row (hS 0 (by omega)).1 (by decide)).1
      refine .inr ⟨a.block, a.off, by cases a; simp_all, fun i hi => ?_⟩
      have h1 : i < len := by simpa using hi
      have := (bm_open_row (hS i h1).1 (by decide)).2
      rw [bm_add_off hs] at this
      simpa using this
  · intro s hs
    simp only [List.mem_map, List.mem_range] at hs
    obtain ⟨i, hi, rfl⟩ := hs
    exact (hS i hi).2
theorem open_threes (h : DataW.trod enc Tryz.prog w base spare held fuel 23 cs = some x) :
    ∃ (p : Option Addr) (cap : Nat) (l : List (Int × Int × Int)), cs = [.slice p l.length cap] ∧ ThreesP w p l ∧ (∀ s ∈ l, (-128 ≤ s.1 ∧ s.1 ≤ 127) ∧ (-128 ≤ s.2.1 ∧ s.2.1 ≤ 127) ∧ (-128 ≤ s.2.2 ∧ s.2.2 ≤ 127)) ∧ l.length ≤ cap := by
  rcases open_slice Tryz.underlying23 h with ⟨rfl, rfl⟩ | ⟨a, len, cap, m, n, D, Pl, rfl, _, hl, _, hm, rfl, hx⟩
  · exact ⟨none, 0, [], rfl, .inl rfl, fun _ h => absurd h List.not_mem_nil, Nat.le_refl _⟩
  have hlm : len ≤ m := by rw [hm]; split <;> omega
  obtain ⟨S, hS⟩ := choose_lt (α := Int × Int × Int) (n := len) (p := fun i s => w.cells? base (a.add (i * 3)) 3 = some [.int .i8 s.1, .int .i8 s.2.1, .int .i8 s.2.2] ∧ (-128 ≤ s.1 ∧ s.1 ≤ 127) ∧ (-128 ≤ s.2.1 ∧ s.2.1 ≤ 127) ∧ (-128 ≤ s.2.2 ∧ s.2.2 ≤ 127)) fun i hi => by
    obtain ⟨cs', h1, h2⟩ := hx i (by omega)
    rw [cA3] at h1
    obtain ⟨u, v, t, rfl, h3⟩ := open_three h2
    exact ⟨(u, v, t), h1, h3⟩
  refine ⟨some a, cap, (List.range len).map S, by simp, ?_, ?_, by simpa using hl⟩
  · by_cases h0 : len = 0
    · subst h0; exact .inl rfl
    · have hs : a.spot = none := by simpa [Addr.add] using (bm_open_row (hS 0 (by omega)).1 (by decide)).1
      refine .inr ⟨a.block, a.off, by cases a; simp_all, fun i hi => ?_⟩
      have h1 : i < len := by simpa using hi
      have := (bm_open_row (hS i h1).1 (by decide)).2
      rw [bm_add_off hs] at this
      simpa using this
  · intro s hs
    simp only [List.mem_map, List.mem_range] at hs
    obtain ⟨i, hi, rfl⟩ := hs
    exact (hS i hi).2
end
section
variable {H : Type} {enc : TypeId × Value → H} {w : World} {base : Nat} {spare : Nat → Bool} {held : Bool} {v : Value} {d : DataW H} {ps : List MemPlace}
theorem open_smb {r : Reach} {b0 : Nat} (hv : Value.okWide Tryz.prog w r b0 25 v) (h : DataW.Trod enc Tryz.prog w base spare held 25 v d ps) :
    ∃ (x : SmB) (p q : Option Addr) (c e : Nat), v = smbV x p q c e ∧ SmbM w x p q c e := by
  obtain ⟨cs, rfl, hc⟩ := okWide_struct Tryz.underlying25 hv
  obtain ⟨fuel, hf⟩ := h
  obtain ⟨xs, m, rfl, hx, hl, hn, hg⟩ := DataW.trod_struct Tryz.underlying25 hf
  rw [cSmB] at hc
  obtain ⟨x0, x1, x2, x3, x4, rfl⟩ : ∃ x0 x1 x2 x3 x4, xs = [x0, x1, x2, x3, x4] := by
    match xs, hn with
    | [a, b, c, d, e], _ => exact ⟨a, b, c, d, e, rfl⟩
  obtain ⟨l⟩ := cs
  match l, hc with
  | [v0, v1, v2, v3, v4], _ =>
    have h0 : DataW.trod enc Tryz.prog w base spare held m 5 (List.take (Tryz.prog.cellsOf 5) [v0, v1, v2, v3, v4]) = some x0 := hg 0 _ rfl
    have h1 : DataW.trod enc Tryz.prog w base spare held m 5 (List.take (Tryz.prog.cellsOf 5) [v1, v2, v3, v4]) = some x1 := hg 1 _ rfl
    have h2 : DataW.trod enc Tryz.prog w base spare held m 5 (List.take (Tryz.prog.cellsOf 5) [v2, v3, v4]) = some x2 := hg 2 _ rfl
    have h3 : DataW.trod enc Tryz.prog w base spare held m 22 (List.take (Tryz.prog.cellsOf 22) [v3, v4]) = some x3 := hg 3 _ rfl
    have h4 : DataW.trod enc Tryz.prog w base spare held m 23 (List.take (Tryz.prog.cellsOf 23) [v4]) = some x4 := hg 4 _ rfl
    rw [cU8] at h0 h1 h2
    rw [cS2] at h3
    rw [cS3] at h4
    obtain ⟨a, rfl, ha⟩ := open_u8 h0
    obtain ⟨b, rfl, hb⟩ := open_u8 h1
    obtain ⟨c, rfl, hcc⟩ := open_u8 h2
    obtain ⟨p, cp, fs, e3, hp, hfs, hcf⟩ := open_pairs h3
    obtain ⟨q, cq, ss, e4, hq, hss, hcs⟩ := open_threes h4
    have e3 : v3 = .slice p fs.length cp := by simpa using e3
    have e4 : v4 = .slice q ss.length cq := by simpa using e4
    subst e3
    subst e4
    exact ⟨⟨a, b, c, fs, ss⟩, p, q, cp, cq, rfl, ⟨ha, hb, hcc, ⟨hfs, hss⟩, hp, hq, hcf, hcs⟩⟩
end
end Go.Proofs.YtddadjbflgdomaaGreatDoor
