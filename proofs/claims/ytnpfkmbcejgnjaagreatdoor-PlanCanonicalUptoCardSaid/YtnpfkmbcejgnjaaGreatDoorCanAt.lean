/-
  Sides compared by their corners; the least of a ring, and where it is.
-/
import Derived.Test.YtnpfkmbcejgnjaaGreatDoorCanLaw
import Derived.Test.YtnpfkmbcejgnjaaGreatDoorAp
import Derived.Test.YtnpfkmbcejgnjaaGreatDoorTab
import Derived.Test.YtnpfkmbcejgnjaaGreatDoorFind
namespace Go.Proofs.YtnpfkmbcejgnjaaGreatDoor
open Go Go.RowKit Go.Am
set_option maxRecDepth 10000
-- BOXES 3
theorem isNaN_gives (a : Int) : Gives Tryz.prog 170 [.int .i64 a] (.bool false) := by
  intro W
  refine calls_enter (args := [.int .i64 a]) Tryz.func170 rfl rfl rfl ?_
  refine zA ?_
  refine zB ?_
  refine wl_pure Tryz.hT rfl rfl rfl ?_
  refine wl_nil ?_
  refine zE ?_
  refine zA ?_
  refine zB ?_
  refine wl_pure Tryz.hT rfl rfl rfl ?_
  refine wl_pure Tryz.hT rfl rfl rfl ?_
  refine wl_pure Tryz.hT rfl rfl rfl ?_
  refine wl_upd 5 (.bool false) rfl (congrArg Value.bool (show (a != a) = false by simp)) ?_
  refine wl_pure Tryz.hT rfl rfl rfl ?_
  refine wl_nil ?_
  refine zE ?_
  refine zO ?_
  exact ne_ret1 Tryz.hT rfl (.tmp rfl) () rfl trivial fun W _ => NewBx.nil _ _
theorem compareI_gives (a b : Int) : Gives Tryz.prog 145 [.int .i64 a, .int .i64 b] (.int .i64 (cmpI a b)) := by
  intro W
  refine calls_enter (args := [.int .i64 a, .int .i64 b]) Tryz.func145 rfl rfl rfl ?_
  refine zA ?_
  refine zB ?_
  refine wl_pure Tryz.hT rfl rfl rfl ?_
  refine wl_nil ?_
  refine zE ?_
  refine zA ?_
  refine zB ?_
  refine wl_pure Tryz.hT rfl rfl rfl ?_
  refine wl_call1 rfl rfl rfl rfl rfl rfl (by kernel_rfl) (fun W _ => isNaN_gives a W) ?_
  refine wl_pure Tryz.hT rfl rfl rfl ?_
  refine wl_nil ?_
  refine zE ?_
  refine zA ?_
  refine zB ?_
  refine wl_pure Tryz.hT rfl rfl rfl ?_
  refine wl_call1 rfl rfl rfl rfl rfl rfl (by kernel_rfl) (fun W _ => isNaN_gives b W) ?_
  refine wl_pure Tryz.hT rfl rfl rfl ?_
  refine wl_nil ?_
  refine zE ?_
  refine zA ?_
  refine zA ?_
  refine zB ?_
  refine wl_pure Tryz.hT rfl rfl rfl ?_
  refine wl_nil ?_
  refine zE ?_
  refine zS rfl ?_
  refine zI ?_
  refine zE ?_
  refine zA ?_
  refine zA ?_
  refine zB ?_
  refine wl_pure Tryz.hT rfl rfl rfl ?_
  refine wl_nil ?_
  refine zE ?_
  refine zS rfl ?_
  refine zI ?_
  refine zE ?_
  refine zA ?_
  refine zA ?_
  refine zB ?_
  refine wl_pure Tryz.hT rfl rfl rfl ?_
  refine wl_pure Tryz.hT rfl rfl rfl ?_
  refine wl_pure Tryz.hT rfl rfl rfl ?_
  refine wl_nil ?_
  refine zE ?_
  refine wc_cond rfl (fun h => ?_) (fun h => ?_)
  · have h' : a < b := by have h2 : decide (a < b) = true := h; simpa using h2
    have e : cmpI a b = -1 := by unfold cmpI; rw [if_pos h']
    refine zA ?_
    refine zB ?_
    refine wl_pure Tryz.hT rfl rfl rfl ?_
    refine wl_nil ?_
    refine zE ?_
    refine zO ?_
    refine zP ?_
    exact ne_ret1 Tryz.hT rfl (.tmp rfl) () (by rw [e]) trivial fun W _ => NewBx.nil _ _
  have h1 : ¬ a < b := by have h2 : decide (a < b) = false := h; simpa using h2
  clear h
  refine zI ?_
  refine zE ?_
  refine zA ?_
  refine zA ?_
  refine zB ?_
  refine wl_pure Tryz.hT rfl rfl rfl ?_
  refine wl_pure Tryz.hT rfl rfl rfl ?_
  refine wl_pure Tryz.hT rfl rfl rfl ?_
  refine wl_nil ?_
  refine zE ?_
  refine wc_cond rfl (fun h => ?_) (fun h => ?_)
  · have h' : a > b := by have h2 : decide (a > b) = true := h; simpa using h2
    have e : cmpI a b = 1 := by unfold cmpI; rw [if_neg h1, if_pos h']
    refine zA ?_
    refine zB ?_
    refine wl_pure Tryz.hT rfl rfl rfl ?_
    refine wl_nil ?_
    refine zE ?_
    refine zO ?_
    refine zP ?_
    exact ne_ret1 Tryz.hT rfl (.tmp rfl) () (by rw [e]) trivial fun W _ => NewBx.nil _ _
  have h2 : ¬ a > b := by have h2 : decide (a > b) = false := h; simpa using h2
  have e : cmpI a b = 0 := by unfold cmpI; rw [if_neg h1, if_neg h2]
  refine zI ?_
  refine zE ?_
  refine zA ?_
  refine zB ?_
  refine wl_pure Tryz.hT rfl rfl rfl ?_
  refine wl_nil ?_
  refine zE ?_
  refine zO ?_
  exact ne_ret1 Tryz.hT rfl (.tmp rfl) () (by rw [e]) trivial fun W _ => NewBx.nil _ _
theorem or_gives (W : World) (g : Nat) (a b : Int) (h : RowAt W g 0 [.int .i64 a, .int .i64 b]) :
    CallsR Tryz.prog 144 #[.slice (some ⟨g, 0, none⟩) 2 2] W (fun _ : Unit => .int .i64 (if a ≠ 0 then a else b)) (fun _ => True) (fun _ => []) := by
  refine calls_enter (args := [.slice (some ⟨g, 0, none⟩) 2 2]) Tryz.func144 rfl rfl rfl ?_
  have h0 : RowAt W g (0 + 0 * 1) [.int .i64 a] := ⟨h.lt, fun j u hu => h.get j u (by cases j with | zero => exact hu | succ j => cases hu)⟩
  have h1 : RowAt W g (0 + 1 * 1) [.int .i64 b] := ⟨h.lt, fun j u hu => by
    cases j with
    | zero => exact h.get 1 u hu
    | succ j => cases hu⟩
  refine zA ?_
  refine zB ?_
  refine wl_pure Tryz.hT rfl rfl rfl ?_
  refine wl_nil ?_
  refine zE ?_
  refine zA ?_
  refine zB ?_
  refine wl_pure Tryz.hT rfl rfl rfl ?_
  refine wl_nil ?_
  refine zE ?_
  refine zA ?_
  refine zA ?_
  refine zB ?_
  refine wl_pure Tryz.hT rfl rfl rfl ?_
  refine wl_pure Tryz.hT rfl rfl rfl ?_
  refine wl_pure Tryz.hT rfl rfl rfl ?_
  refine wl_nil ?_
  refine zE ?_
  refine zH ?_
  refine wc_loop (X := Nat) (fun k => [(3, .int .i64 0), (6, .slice (some ⟨g, 0, none⟩) 2 2), (7, .int .i64 2), (8, .int .i64 (k : Nat))]) (fun _ => []) (fun k => k ≤ 2 ∧ (0 < k → a = 0) ∧ (1 < k → b = 0)) (fun k => 2 - k) 0 ⟨by omega, fun h => absurd h (by omega), fun h => absurd h (by omega)⟩ ⟨rfl, rfl, rfl, rfl, trivial⟩ [] rfl ?_
  rintro k ⟨hk, ha, hb⟩
  refine zA ?_
  refine zB ?_
  refine wl_pure Tryz.hT rfl rfl rfl ?_
  refine wl_nil ?_
  refine zE ?_
  refine zA ?_
  refine wc_cond rfl (fun h => ?_) (fun h => ?_)
  rotate_left
  · have e : k = 2 := by have h' : decide ((k : Int) < 2) = false := h; rw [decide_eq_false_iff_not] at h'; omega
    refine zJ ?_
    refine zK ?_
    refine zK ?_
    refine zL ?_
    refine zE ?_
    refine zA ?_
    refine zB ?_
    refine wl_pure Tryz.hT rfl rfl rfl ?_
    refine wl_pure Tryz.hT rfl rfl rfl ?_
    refine wl_nil ?_
    refine zE ?_
    refine zO ?_
    exact ne_ret1 Tryz.hT rfl (.tmp rfl) () (by rw [if_neg (fun h => h (ha (by omega))), hb (by omega)]) trivial fun W _ => NewBx.nil _ _
  have hk : k < 2 := by have h' : decide ((k : Int) < 2) = true := h; rw [decide_eq_true_iff] at h'; omega
  clear h
  rcases (show k = 0 ∨ k = 1 by omega) with rfl | rfl
  · refine zI ?_
    refine zE ?_
    refine zA ?_
    refine zH ?_
    refine zA ?_
    refine zB ?_
    refine wl_indexAddr Tryz.hT rfl rfl rfl rfl rfl rfl rfl (by omega) (by omega) ?_
    refine wl_load rfl rfl rfl rfl (fun W hp => RowAt.load 0 Tryz.hT rfl ((fun W hp => h0.hp hp) W hp) rfl) ?_
    refine wl_pure Tryz.hT rfl rfl rfl ?_
    refine wl_nil ?_
    refine zE ?_
    refine zA ?_
    refine zB ?_
    refine wl_pure Tryz.hT rfl rfl rfl ?_
    refine wl_pure Tryz.hT rfl rfl rfl ?_
    refine wl_pure Tryz.hT rfl rfl rfl ?_
    refine wl_nil ?_
    refine zE ?_
    refine wc_cond rfl (fun hx => ?_) (fun hx => ?_)
    · have hx : a ≠ 0 := by have h' : (a != 0) = true := hx; simpa using h'
      refine zA ?_
      refine zB ?_
      refine wl_pure Tryz.hT rfl rfl rfl ?_
      refine wl_pure Tryz.hT rfl rfl rfl ?_
      refine wl_nil ?_
      refine zE ?_
      refine zO ?_
      refine zQ ?_
      refine zP ?_
      refine zP ?_
      refine zQ ?_
      refine zP ?_
      exact ne_ret1 Tryz.hT rfl (.tmp rfl) () (by rw [if_pos hx]) trivial fun W _ => NewBx.nil _ _
    · have hx : a = 0 := by have h' : (a != 0) = false := hx; simpa using h'
      refine zI ?_
      refine zN ?_
      refine zE ?_
      refine zB ?_
      refine wl_pure Tryz.hT rfl rfl rfl ?_
      refine wl_pure Tryz.hT rfl rfl rfl ?_
      refine wl_nil ?_
      exact ne_loop 1 ⟨by omega, fun _ => hx, fun h => absurd h (by omega)⟩ (by omega) ⟨rfl, rfl, rfl, rfl, trivial⟩ [] rfl
  · refine zI ?_
    refine zE ?_
    refine zA ?_
    refine zH ?_
    refine zA ?_
    refine zB ?_
    refine wl_indexAddr Tryz.hT rfl rfl rfl rfl rfl rfl rfl (by omega) (by omega) ?_
    refine wl_load rfl rfl rfl rfl (fun W hp => RowAt.load 0 Tryz.hT rfl ((fun W hp => h1.hp hp) W hp) rfl) ?_
    refine wl_pure Tryz.hT rfl rfl rfl ?_
    refine wl_nil ?_
    refine zE ?_
    refine zA ?_
    refine zB ?_
    refine wl_pure Tryz.hT rfl rfl rfl ?_
    refine wl_pure Tryz.hT rfl rfl rfl ?_
    refine wl_pure Tryz.hT rfl rfl rfl ?_
    refine wl_nil ?_
    refine zE ?_
    refine wc_cond rfl (fun hx => ?_) (fun hx => ?_)
    · refine zA ?_
      refine zB ?_
      refine wl_pure Tryz.hT rfl rfl rfl ?_
      refine wl_pure Tryz.hT rfl rfl rfl ?_
      refine wl_nil ?_
      refine zE ?_
      refine zO ?_
      refine zQ ?_
      refine zP ?_
      refine zP ?_
      refine zQ ?_
      refine zP ?_
      exact ne_ret1 Tryz.hT rfl (.tmp rfl) () (by rw [if_neg (fun h => h (ha (by omega)))]) trivial fun W _ => NewBx.nil _ _
    · have hx : b = 0 := by have h' : (b != 0) = false := hx; simpa using h'
      refine zI ?_
      refine zN ?_
      refine zE ?_
      refine zB ?_
      refine wl_pure Tryz.hT rfl rfl rfl ?_
      refine wl_pure Tryz.hT rfl rfl rfl ?_
      refine wl_nil ?_
      exact ne_loop 2 ⟨by omega, fun _ => ha (by omega), fun _ => hx⟩ (by omega) ⟨rfl, rfl, rfl, rfl, trivial⟩ [] rfl
theorem compare_gives (a b : Sd) : Gives Tryz.prog 89 [a.val, b.val] (.int .i64 (cmpS a b)) := by
  intro W
  refine calls_enter (args := [a.val, b.val]) Tryz.func89 rfl rfl rfl ?_
  refine zA ?_
  refine zB ?_
  (refine wl_box rfl rfl rfl rfl ?_; intro)
  (refine wl_box rfl rfl rfl rfl ?_; intro)
  refine wl_pure Tryz.hT rfl rfl rfl ?_
  refine wl_nil ?_
  rename_i b2 b3
  refine zE ?_
  refine zA ?_
  refine zT Tryz.mixed (by kernel_rfl) ?_
  refine wq_pure Tryz.hT rfl rfl rfl ?_
  refine wq_loadBx 0 Tryz.hT rfl rfl rfl rfl rfl rfl rfl rfl ?_
  refine wq_pure Tryz.hT rfl rfl rfl ?_
  refine wq_loadBx 1 Tryz.hT rfl rfl rfl rfl rfl rfl rfl rfl ?_
  refine wq_call1 rfl rfl rfl rfl rfl rfl (by kernel_rfl) (fun W _ => compareI_gives a.x b.x W) ?_
  refine wq_pure Tryz.hT rfl rfl rfl ?_
  refine wq_loadBx 0 Tryz.hT rfl rfl rfl rfl rfl rfl rfl rfl ?_
  refine wq_pure Tryz.hT rfl rfl rfl ?_
  refine wq_loadBx 1 Tryz.hT rfl rfl rfl rfl rfl rfl rfl rfl ?_
  refine wq_call1 rfl rfl rfl rfl rfl rfl (by kernel_rfl) (fun W _ => compareI_gives a.y b.y W) ?_
  refine wq_nil ?_
  (refine wl_buildRowZ Tryz.hZ Tryz.hT rfl rfl rfl rfl rfl rfl rfl rfl rfl rfl rfl ?_; intro)
  rename_i b15
  refine wl_call1 rfl rfl rfl rfl rfl rfl (by kernel_rfl) (fun W hp => or_gives W b15 (cmpI a.x b.x) (cmpI a.y b.y) (RowAt.of_bx hp 2 rfl rfl)) ?_
  refine wl_pure Tryz.hT rfl rfl rfl ?_
  refine wl_nil ?_
  refine zE ?_
  refine zO ?_
  exact ne_ret1 Tryz.hT rfl (.tmp rfl) () (rfl) trivial fun W _ => NewBx.nil _ _
set_option maxHeartbeats 4000000 in
theorem minFunc_gives (W : World) (p : Option Addr) (cap : Nat) (l : List Sd) (h0 : 0 < l.length) (hn : l.length < 4611686018427387904) (hR : RingP W p l) :
    CallsR Tryz.prog 90 #[slv p l.length cap, .func (.func 89) #[] #[]] W (fun _ : Unit => (sd l (atS l)).val) (fun _ => True) (fun _ => []) := by
  obtain ⟨bq, oq, rfl, hrq⟩ := hR.row h0
  refine calls_enter (args := [slv (some ⟨bq, oq, none⟩) l.length cap, .func (.func 89) #[] #[]]) Tryz.func90 rfl rfl rfl ?_
  refine zA ?_
  refine zB ?_
  (refine wl_allocZ Tryz.hZ rfl rfl rfl rfl ?_; intro)
  refine wl_nil ?_
  rename_i b4
  refine zE ?_
  refine zA ?_
  refine zA ?_
  refine zB ?_
  refine wl_pure Tryz.hT rfl rfl rfl ?_
  refine wl_pure Tryz.hT rfl rfl rfl ?_
  refine wl_pure Tryz.hT rfl rfl rfl ?_
  refine wl_nil ?_
  refine zE ?_
  refine wc_cond rfl (fun h => ?_) (fun h => ?_)
  · have h' : decide (((l.length : Nat) : Int) < 1) = true := h
    rw [decide_eq_true_iff] at h'; omega
  clear h
  refine zI ?_
  refine zE ?_
  refine zA ?_
  refine zB ?_
  refine wl_pure Tryz.hT rfl rfl rfl ?_
  refine wl_indexAddr Tryz.hT rfl rfl rfl rfl rfl rfl rfl (by omega) (by omega) ?_
  refine wl_load rfl rfl rfl rfl (fun W hp => RowAt.load 0 Tryz.hT rfl ((fun W hp => (hrq 0 h0).hp hp) W hp) rfl) ?_
  (refine wl_allocZ Tryz.hZ rfl rfl rfl rfl ?_; intro)
  refine wl_storeBx 1 Tryz.hT rfl rfl rfl rfl rfl rfl rfl rfl rfl rfl rfl ?_
  refine wl_nil ?_
  rename_i b5
  refine zE ?_
  refine zA ?_
  refine zA ?_
  refine zB ?_
  refine wl_pure Tryz.hT rfl rfl rfl ?_
  refine wl_nil ?_
  refine zE ?_
  refine zH ?_
  refine wc_loop (X := Nat) (fun k => [(0, slv (some ⟨bq, oq, none⟩) l.length cap), (1, .func (.func 89) #[] #[]), (4, .pointer (some ⟨b4, 0, none⟩)), (5, .pointer (some ⟨b5, 0, none⟩)), (6, .int .i64 ((k + 1 : Nat) : Int))]) (fun k => [⟨b4, 42, (default : Sd).cells, true, none⟩, ⟨b5, 42, (sd l (atUp l k)).cells, true, none⟩])
    (fun k => k < l.length) (fun k => l.length - k) 0 h0 ⟨rfl, rfl, rfl, rfl, rfl, trivial⟩ [] rfl ?_
  intro k hk
  refine zA ?_
  refine zA ?_
  refine zB ?_
  refine wl_pure Tryz.hT rfl rfl rfl ?_
  refine wl_pure Tryz.hT rfl rfl rfl ?_
  refine wl_pure Tryz.hT rfl rfl rfl ?_
  refine wl_pure Tryz.hT rfl rfl rfl ?_
  refine wl_nil ?_
  refine zE ?_
  refine wc_cond rfl (fun h => ?_) (fun h => ?_)
  rotate_left
  · have e : k = l.length - 1 := by have h' : decide (((k + 1 : Nat) : Int) < (l.length : Nat)) = false := h; rw [decide_eq_false_iff_not] at h'; omega
    subst e
    refine zJ ?_
    refine zK ?_
    refine zK ?_
    refine zL ?_
    refine zE ?_
    refine zA ?_
    refine zB ?_
    refine wl_loadBx 1 Tryz.hT rfl rfl rfl rfl rfl rfl rfl rfl ?_
    refine wl_storeBx 0 Tryz.hT rfl rfl rfl rfl rfl rfl rfl rfl rfl rfl rfl ?_
    refine wl_nil ?_
    refine zE ?_
    refine zO ?_
    exact ne_ret1 Tryz.hT rfl (.cell 0 rfl rfl rfl rfl rfl) () rfl trivial fun W _ => NewBx.nil _ _
  have hk1 : k + 1 < l.length := by have h' : decide (((k + 1 : Nat) : Int) < (l.length : Nat)) = true := h; rw [decide_eq_true_iff] at h'; omega
  clear h
  have eup : atUp l (k + 1) = if cmpS (sd l (k + 1)) (sd l (atUp l k)) < 0 then k + 1 else atUp l k := rfl
  refine zI ?_
  refine zE ?_
  refine zA ?_
  refine zH ?_
  refine zA ?_
  refine zT Tryz.mixed (by kernel_rfl) ?_
  refine wq_pure Tryz.hT rfl rfl rfl ?_
  refine wq_pure Tryz.hT rfl rfl rfl ?_
  refine wq_pure Tryz.hT rfl rfl rfl ?_
  refine wq_indexAddr Tryz.hT rfl rfl rfl rfl rfl rfl rfl (by omega) (by omega) ?_
  refine wq_load rfl rfl rfl rfl (fun W hp => RowAt.load 0 Tryz.hT rfl ((fun W hp => (hrq _ hk1).hp hp) W hp) rfl) ?_
  refine wq_loadBx 1 Tryz.hT rfl rfl rfl rfl rfl rfl rfl rfl ?_
  refine wq_call1 (capt := []) rfl rfl rfl rfl rfl rfl (by kernel_rfl) (fun W _ => compare_gives (sd l (k + 1)) (sd l (atUp l k)) W) ?_
  refine wq_pure Tryz.hT rfl rfl rfl ?_
  refine wq_nil ?_
  refine wl_nil ?_
  refine zE ?_
  refine wc_cond rfl (fun hx => ?_) (fun hx => ?_)
  · have hx : cmpS (sd l (k + 1)) (sd l (atUp l k)) < 0 := by have h' : decide (cmpS (sd l (k + 1)) (sd l (atUp l k)) < 0) = true := hx; simpa using h'
    rw [if_pos hx] at eup
    refine zB ?_
    refine wl_pure Tryz.hT rfl rfl rfl ?_
    refine wl_pure Tryz.hT rfl rfl rfl ?_
    refine wl_indexAddr Tryz.hT rfl rfl rfl rfl rfl rfl rfl (by omega) (by omega) ?_
    refine wl_load rfl rfl rfl rfl (fun W hp => RowAt.load 0 Tryz.hT rfl ((fun W hp => (hrq _ hk1).hp hp) W hp) rfl) ?_
    refine wl_storeBx 1 Tryz.hT rfl rfl rfl rfl rfl rfl rfl rfl rfl rfl rfl ?_
    refine wl_nil ?_
    refine zN ?_
    refine zE ?_
    refine zB ?_
    refine wl_pure Tryz.hT rfl rfl rfl ?_
    refine wl_pure Tryz.hT rfl rfl rfl ?_
    refine wl_pure Tryz.hT rfl rfl rfl ?_
    refine wl_nil ?_
    exact ne_loop (k + 1) hk1 (by omega) ⟨rfl, rfl, rfl, rfl, congrArg (fun z => some (Value.int .i64 z)) (wrap_id (x := ((k + 1 : Nat) : Int) + 1) (by omega) (by omega)), trivial⟩ [] (by show _ = [_, (⟨b5, 42, (sd l (atUp l (k + 1))).cells, true, none⟩ : Bx)] ++ []; rw [eup]; rfl)
  · have hx : ¬ cmpS (sd l (k + 1)) (sd l (atUp l k)) < 0 := by have h' : decide (cmpS (sd l (k + 1)) (sd l (atUp l k)) < 0) = false := hx; simpa using h'
    rw [if_neg hx] at eup
    refine zI ?_
    refine zN ?_
    refine zE ?_
    refine zB ?_
    refine wl_pure Tryz.hT rfl rfl rfl ?_
    refine wl_pure Tryz.hT rfl rfl rfl ?_
    refine wl_pure Tryz.hT rfl rfl rfl ?_
    refine wl_nil ?_
    exact ne_loop (k + 1) hk1 (by omega) ⟨rfl, rfl, rfl, rfl, congrArg (fun z => some (Value.int .i64 z)) (wrap_id (x := ((k + 1 : Nat) : Int) + 1) (by omega) (by omega)), trivial⟩ [] (by show _ = [_, (⟨b5, 42, (sd l (atUp l (k + 1))).cells, true, none⟩ : Bx)] ++ []; rw [eup]; rfl)
end Go.Proofs.YtnpfkmbcejgnjaaGreatDoor
namespace Go.Proofs.YtnpfkmbcejgnjaaGreatDoor
open Go Go.RowKit Go.Am
set_option maxRecDepth 10000
-- BOXES 3
/-- Is this the least corner of the ring? -/
def isAt (l : List Sd) (s : Sd) : Bool := decide (cmpS s (sd l (atS l)) = 0)
theorem canon1_gives (W : World) (b : Nat) (p : Option Addr) (cap : Nat) (l : List Sd) (h0 : 0 < l.length) (hn : l.length < 4611686018427387904) (hb : RowAt W b 0 [slv p l.length cap]) (hR : RingP W p l) (s : Sd) :
    CallsR Tryz.prog 88 #[s.val, .pointer (some ⟨b, 0, none⟩)] W (fun _ : Unit => .bool (isAt l s)) (fun _ => True) (fun _ => []) := by
  refine calls_enter (args := [s.val, .pointer (some ⟨b, 0, none⟩)]) Tryz.func88 rfl rfl rfl ?_
  refine zA ?_
  refine zB ?_
  (refine wl_box rfl rfl rfl rfl ?_; intro)
  refine wl_pure Tryz.hT rfl rfl rfl ?_
  refine wl_nil ?_
  rename_i b2
  refine zE ?_
  refine zA ?_
  refine zT Tryz.mixed (by kernel_rfl) ?_
  refine wq_loadBx 0 Tryz.hT rfl rfl rfl rfl rfl rfl rfl rfl ?_
  refine wq_load rfl rfl rfl rfl (fun W hp => RowAt.load 0 Tryz.hT rfl ((fun W hp => hb.hp hp) W hp) rfl) ?_
  refine wq_call1 (capt := []) rfl rfl rfl rfl rfl rfl (by kernel_rfl) (fun W hp => minFunc_gives W p cap l h0 hn (hR.hp hp)) ?_
  refine wq_call1 (capt := []) rfl rfl rfl rfl rfl rfl (by kernel_rfl) (fun W _ => compare_gives s (sd l (atS l)) W) ?_
  refine wq_pure Tryz.hT rfl rfl rfl ?_
  refine wq_pure Tryz.hT rfl rfl rfl ?_
  refine wq_nil ?_
  refine wl_nil ?_
  refine zE ?_
  refine zO ?_
  exact ne_ret1 Tryz.hT rfl (.tmp rfl) () (rfl) trivial fun W _ => NewBx.nil _ _
theorem indexC_gives (g : Nat) (hE : entersB Tryz.prog g = true) (capt : List Value) (f : Sd → Bool) (W : World) (p : Option Addr) (cap : Nat) (l : List Sd) (hn : l.length < 4611686018427387904) (hR : RingP W p l)
    (hf : ∀ W', Below W.heap.size W W' → ∀ s, CallsR Tryz.prog g ([s.val] ++ capt).toArray W' (fun _ : Unit => .bool (f s)) (fun _ => True) (fun _ => [])) :
    CallsR Tryz.prog 87 #[slv p l.length cap, .func (.func g) #[] capt.toArray] W (fun _ : Unit => .int .i64 (idxF f l 0)) (fun _ => True) (fun _ => []) := by
  refine calls_enter (args := [slv p l.length cap, .func (.func g) #[] capt.toArray]) Tryz.func87 rfl rfl rfl ?_
  refine zA ?_
  refine zB ?_
  refine wl_pure Tryz.hT rfl rfl rfl ?_
  refine wl_nil ?_
  refine zE ?_
  refine zA ?_
  refine zA ?_
  refine zB ?_
  refine wl_pure Tryz.hT rfl rfl rfl ?_
  refine wl_pure Tryz.hT rfl rfl rfl ?_
  refine wl_pure Tryz.hT rfl rfl rfl ?_
  refine wl_nil ?_
  refine zE ?_
  refine zH ?_
  refine wc_loop (X := Nat) (fun k => [(0, slv p l.length cap), (1, .func (.func g) #[] capt.toArray), (7, .int .i64 (l.length : Nat)), (8, .int .i64 (k : Nat))]) (fun _ => [])
    (fun k => k ≤ l.length ∧ idxF f l 0 = idxF f (l.drop k) k) (fun k => l.length - k) 0 ⟨Nat.zero_le _, rfl⟩ ⟨rfl, rfl, rfl, rfl, trivial⟩ [] rfl ?_
  rintro k ⟨hk, hi⟩
  refine zA ?_
  refine zB ?_
  refine wl_pure Tryz.hT rfl rfl rfl ?_
  refine wl_nil ?_
  refine zE ?_
  refine zA ?_
  refine wc_cond rfl (fun h => ?_) (fun h => ?_)
  rotate_left
  · refine zJ ?_
    refine zK ?_
    refine zK ?_
    refine zL ?_
    refine zE ?_
    refine zA ?_
    refine zB ?_
    refine wl_pure Tryz.hT rfl rfl rfl ?_
    refine wl_nil ?_
    refine zE ?_
    refine zO ?_
    have e : k = l.length := by simp at h; omega
    rw [e, List.drop_length] at hi
    exact ne_ret1 Tryz.hT rfl (.tmp rfl) () (by rw [hi]; rfl) trivial fun W _ => NewBx.nil _ _
  · have hk : k < l.length := by simp at h; omega
    clear h
    obtain ⟨b, off, rfl, hrow⟩ := hR.row hk
    refine zI ?_
    refine zE ?_
    refine zA ?_
    refine zH ?_
    refine zA ?_
    refine zB ?_
    refine wl_pure Tryz.hT rfl rfl rfl ?_
    refine wl_pure Tryz.hT rfl rfl rfl ?_
    refine wl_nil ?_
    refine zE ?_
    refine zA ?_
    refine zB ?_
    refine wl_pure Tryz.hT rfl rfl rfl ?_
    refine wl_pure Tryz.hT rfl rfl rfl ?_
    refine wl_pure Tryz.hT rfl rfl rfl ?_
    refine wl_indexAddr Tryz.hT rfl rfl rfl rfl rfl rfl rfl (by omega) (by omega) ?_
    refine wl_load rfl rfl rfl rfl (fun W hp => RowAt.load 0 Tryz.hT rfl ((fun W hp => (hrow k hk).hp hp) W hp) rfl) ?_
    refine wl_call1 (g := g) (capt := capt) (v := .bool (f (sd l k))) rfl rfl rfl rfl rfl rfl hE (fun W' hp => hf W' hp.below (sd l k)) ?_
    have hd : l.drop k = sd l k :: l.drop (k + 1) := by
      rw [List.drop_eq_getElem_cons hk]; simp [sd, hk]
    have hstep : idxF f (l.drop k) k = if f (sd l k) = true then (k : Int) else idxF f (l.drop (k + 1)) (k + 1) := by rw [hd]; rfl
    rw [hstep] at hi
    refine zC ?_
    refine zE ?_
    refine wc_cond rfl (fun h => ?_) (fun h => ?_)
    · refine zA ?_
      refine zB ?_
      refine wl_pure Tryz.hT rfl rfl rfl ?_
      refine wl_pure Tryz.hT rfl rfl rfl ?_
      refine wl_nil ?_
      refine zE ?_
      refine zO ?_
      refine zQ ?_
      refine zP ?_
      refine zP ?_
      refine zQ ?_
      refine zP ?_
      rw [if_pos h] at hi
      exact ne_ret1 Tryz.hT rfl (.tmp rfl) () (by rw [hi]) trivial fun W _ => NewBx.nil _ _
    · refine zI ?_
      refine zN ?_
      refine zE ?_
      refine zB ?_
      refine wl_pure Tryz.hT rfl rfl rfl ?_
      refine wl_pure Tryz.hT rfl rfl rfl ?_
      refine wl_nil ?_
      rw [if_neg (by rw [h]; decide)] at hi
      exact ne_loop (k + 1) ⟨hk, hi⟩ (by omega) ⟨rfl, rfl, rfl, congrArg (fun z => some (Value.int .i64 z)) (wrap_id (x := (k : Int) + 1) (by omega) (by omega)), trivial⟩ [] rfl
theorem idxF_at {f : Sd → Bool} {l : List Sd} {i : Nat} (hi : i < l.length) (h1 : f (sd l i) = true) (h0 : ∀ j, j < i → f (sd l j) = false) : idxF f l 0 = (i : Int) := by
  have key : ∀ k, k ≤ i → idxF f l 0 = idxF f (l.drop k) k := fun k => by
    induction k with
    | zero => intro _; rfl
    | succ k ih =>
      intro hk
      rw [ih (by omega), List.drop_eq_getElem_cons (show k < l.length by omega)]
      have h2 := h0 k (by omega)
      have e : l[k]'(by omega) = sd l k := by simp [sd, show k < l.length by omega]
      rw [e]
      show (if f (sd l k) = true then (k : Int) else _) = _
      rw [if_neg (by rw [h2]; decide)]
  rw [key i (Nat.le_refl _), List.drop_eq_getElem_cons hi]
  have e : l[i] = sd l i := by simp [sd, hi]
  rw [e]
  show (if f (sd l i) = true then (i : Int) else _) = _
  rw [if_pos h1]
/-- .. it is found where it is. -/
theorem isAt_idx {l : List Sd} (hd : Dist l) (h0 : 0 < l.length) : idxF (isAt l) l 0 = (atS l : Int) := by
  have hm := ex_min hd h0
  refine idxF_at hm.1 (decide_eq_true (cmpS_zero.2 ⟨rfl, rfl⟩)) fun j hj => ?_
  refine decide_eq_false fun h => ?_
  have hlt := hm.1
  have h1 := cmpS_neg.1 (hm.2 j (by omega) (by omega))
  have h2 := cmpS_zero.1 h
  omega
end Go.Proofs.YtnpfkmbcejgnjaaGreatDoor
