/-
  Is a corner inside a ring: as the program counts.
-/
import Derived.Test.YtnpfkmbcejgnjaaGreatDoorArea
import Derived.Test.YtnpfkmbcejgnjaaGreatDoorAn
namespace Go.Proofs.YtnpfkmbcejgnjaaGreatDoor
-- OLD
open Go Go.RowKit Go.Am
set_option maxRecDepth 10000
-- BOXES 8
-- EQB 4
/-- Does an upright side to the right of the corner pass its level. -/
def passB (t u : Sd) (px py : Int) : Bool := (w64 (u.x - t.x) == 0) && decide (t.x > px) && !(decide (t.y > py) == decide (u.y > py))
def insUp (l : List Sd) (px py : Int) : Nat → Bool
  | 0 => false
  | k + 1 => if passB (sd l k) (sd l (nxt l.length k)) px py = true then !insUp l px py k else insUp l px py k
set_option maxHeartbeats 4000000 in
theorem inside_gives (W : World) (p : Option Addr) (cap : Nat) (l : List Sd) (px py : Int) (hn : l.length < 4611686018427387904) (hR : RingP W p l) :
    CallsR Tryz.prog 117 #[slv p l.length cap, spot px py] W (fun _ : Unit => .bool (insUp l px py l.length)) (fun _ => True) (fun _ => []) := by
  refine calls_enter (args := [slv p l.length cap, spot px py]) Tryz.func117 rfl rfl rfl ?_
  refine zA ?_
  refine zB ?_
  refine wl_box rfl rfl rfl rfl ?_
  intro
  refine wl_pure Tryz.hT rfl rfl rfl ?_
  refine zC ?_
  refine zE ?_
  refine zA ?_
  refine zB ?_
  rename_i b3
  refine wl_alloc (z := .bool false) rfl rfl rfl (fun W => by kernel_rfl) fun b5 => ?_
  refine wl_storeBx 1 Tryz.hT rfl rfl rfl rfl rfl rfl rfl rfl rfl rfl rfl ?_
  refine zC ?_
  refine zE ?_
  refine zA ?_
  refine zA ?_
  refine zB ?_
  refine wl_pure Tryz.hT rfl rfl rfl ?_
  refine wl_call (X := Nat) rfl rfl rfl rfl rfl rfl (by kernel_rfl) (fun W _ => sides_gives p l.length cap W) ?_
  intro b _
  refine zC ?_
  refine zE ?_
  refine zH ?_
  refine wc_range (X := Bool × Nat) (fun x => [⟨b3, 87, (spot px py).cells.toList, true, none⟩, ⟨b5, 4, [.bool x.1], true, none⟩, ⟨b, 27, [slv p l.length cap], true, none⟩]) (fun k x => x.2 = k ∧ x.1 = insUp l px py k) (fun _ _ => False) (false, 0) rfl (by kernel_rfl) (sides_iter b p cap l hn) (fun _ => rfl) ⟨rfl, rfl⟩ [] rfl (fun k x W _ hp => SidesNeed.mk' hR hp 2 rfl) ?_ ?_ (fun _ _ _ _ _ h => h.elim)
  · rintro j ⟨i, k⟩ d L rec hk ⟨hj, hi⟩ hrec
    obtain rfl : k = j := hj
    obtain rfl : i = insUp l px py k := hi
    refine zB ?_
    refine wl_alloc (z := arVal default default default) rfl rfl rfl (fun W => by kernel_rfl) fun b7 => ?_
    refine wl_storeBx 5 Tryz.hT rfl rfl rfl rfl rfl rfl rfl rfl rfl rfl rfl ?_
    refine zC ?_
    refine ne_begin 4 hrec rfl ?_
    refine zH ?_
    refine zA ?_
    refine zB ?_
    refine wl_pure Tryz.hT rfl rfl rfl ?_
    refine wl_loadBx 5 Tryz.hT rfl rfl rfl rfl rfl rfl rfl rfl ?_
    refine wl_call1 rfl rfl rfl rfl rfl rfl (by kernel_rfl) (fun W _ => corner_gives (sd l k) W) ?_
    refine wl_alloc (z := spot 0 0) rfl rfl rfl (fun W => by kernel_rfl) fun b8 => ?_
    refine wl_storeBx 6 Tryz.hT rfl rfl rfl rfl rfl rfl rfl rfl rfl rfl rfl ?_
    refine zC ?_
    refine zE ?_
    refine zA ?_
    refine zB ?_
    refine wl_loadBx 5 Tryz.hT rfl rfl rfl rfl rfl rfl rfl rfl ?_
    refine wl_call1 rfl rfl rfl rfl rfl rfl (by kernel_rfl) (fun W _ => way_gives (sd l (prv l.length k)) (sd l k) (sd l (nxt l.length k)) W) ?_
    refine wl_pure Tryz.hT rfl rfl rfl ?_
    refine wl_pure Tryz.hT rfl rfl rfl ?_
    refine wl_pure Tryz.hT rfl rfl rfl ?_
    have no : passB (sd l k) (sd l (nxt l.length k)) px py = false → insUp l px py (k + 1) = insUp l px py k := fun h => by simp [insUp, h]
    have yes : passB (sd l k) (sd l (nxt l.length k)) px py = true → insUp l px py (k + 1) = !insUp l px py k := fun h => by simp [insUp, h]
    refine wl_part 20 rfl (fun h20 => ?_) (fun h20 => ?_)
    · refine wl_pure Tryz.hT rfl rfl rfl ?_
      refine wl_loadBx 6 Tryz.hT rfl rfl rfl rfl rfl rfl rfl rfl ?_
      refine wl_pure Tryz.hT rfl rfl rfl ?_
      refine wl_loadBx 0 Tryz.hT rfl rfl rfl rfl rfl rfl rfl rfl ?_
      refine wl_pure Tryz.hT rfl rfl rfl ?_
      refine wl_pure Tryz.hT rfl rfl rfl ?_
      refine wl_pure Tryz.hT rfl rfl rfl ?_
      refine wl_part 27 rfl (fun h27 => ?_) (fun h27 => ?_)
      · refine wl_pure Tryz.hT rfl rfl rfl ?_
        refine wl_loadBx 6 Tryz.hT rfl rfl rfl rfl rfl rfl rfl rfl ?_
        refine wl_pure Tryz.hT rfl rfl rfl ?_
        refine wl_loadBx 0 Tryz.hT rfl rfl rfl rfl rfl rfl rfl rfl ?_
        refine wl_pure Tryz.hT rfl rfl rfl ?_
        refine wl_pure Tryz.hT rfl rfl rfl ?_
        refine wl_pure Tryz.hT rfl rfl rfl ?_
        refine wl_loadBx 5 Tryz.hT rfl rfl rfl rfl rfl rfl rfl rfl ?_
        refine wl_pure Tryz.hT rfl rfl rfl ?_
        refine wl_loadBx 0 Tryz.hT rfl rfl rfl rfl rfl rfl rfl rfl ?_
        refine wl_pure Tryz.hT rfl rfl rfl ?_
        refine wl_eqB Tryz.underlying4 rfl rfl rfl rfl rfl rfl ?_
        refine wl_pure Tryz.hT rfl rfl rfl ?_
        refine wl_nil ?_
        refine ne_then ?_
        refine wc_cond rfl (fun h => ?_) (fun h => ?_)
        · refine zB ?_
          refine wl_loadBx 1 Tryz.hT rfl rfl rfl rfl rfl rfl rfl rfl ?_
          refine wl_pure Tryz.hT rfl rfl rfl ?_
          refine wl_storeBx 1 Tryz.hT rfl rfl rfl rfl rfl rfl rfl rfl rfl rfl rfl ?_
          refine zC ?_
          refine zN ?_
          exact ne_round 4 (!insUp l px py k, k + 1) hrec rfl ⟨rfl, (yes (by simp_all [passB])).symm⟩ [_, _] rfl
        · refine zI ?_
          refine zN ?_
          exact ne_round 4 (insUp l px py k, k + 1) hrec rfl ⟨rfl, (no (by simp_all [passB])).symm⟩ [_, _] rfl
      · refine wl_skip rfl rfl ?_
        refine wl_skip rfl rfl ?_
        refine wl_skip rfl rfl ?_
        refine wl_skip rfl rfl ?_
        refine wl_skip rfl rfl ?_
        refine wl_skip rfl rfl ?_
        refine wl_skip rfl rfl ?_
        refine wl_skip rfl rfl ?_
        refine wl_skip rfl rfl ?_
        refine wl_skip rfl rfl ?_
        refine wl_skip rfl rfl ?_
        refine wl_skip rfl rfl ?_
        refine wl_pure Tryz.hT rfl rfl rfl ?_
        refine zC ?_
        refine zE ?_
        refine zS rfl ?_
        refine zI ?_
        refine zN ?_
        exact ne_round 4 (insUp l px py k, k + 1) hrec rfl ⟨rfl, (no (by simp_all [passB] <;> (intros; omega))).symm⟩ [_, _] rfl
    · refine wl_skip rfl rfl ?_
      refine wl_skip rfl rfl ?_
      refine wl_skip rfl rfl ?_
      refine wl_skip rfl rfl ?_
      refine wl_skip rfl rfl ?_
      refine wl_pure Tryz.hT rfl rfl rfl ?_
      refine wl_pure Tryz.hT rfl rfl rfl ?_
      refine wl_skip rfl rfl ?_
      refine wl_skip rfl rfl ?_
      refine wl_skip rfl rfl ?_
      refine wl_skip rfl rfl ?_
      refine wl_skip rfl rfl ?_
      refine wl_skip rfl rfl ?_
      refine wl_skip rfl rfl ?_
      refine wl_skip rfl rfl ?_
      refine wl_skip rfl rfl ?_
      refine wl_skip rfl rfl ?_
      refine wl_skip rfl rfl ?_
      refine wl_skip rfl rfl ?_
      refine wl_pure Tryz.hT rfl rfl rfl ?_
      refine zC ?_
      refine zE ?_
      refine zS rfl ?_
      refine zI ?_
      refine zN ?_
      exact ne_round 4 (insUp l px py k, k + 1) hrec rfl ⟨rfl, (no (by simp_all [passB])).symm⟩ [_, _] rfl
  · rintro ⟨i, j⟩ d L rec ⟨hj, hi⟩
    obtain rfl : j = l.length := hj
    obtain rfl : i = insUp l px py l.length := hi
    refine zN ?_
    refine zE ?_
    refine zA ?_
    refine zB ?_
    refine wl_loadBx 1 Tryz.hT rfl rfl rfl rfl rfl rfl rfl rfl ?_
    refine wl_pure Tryz.hT rfl rfl rfl ?_
    refine zC ?_
    refine zE ?_
    refine zO ?_
    refine ne_mark 3 rfl ?_
    exact ne_ret1 Tryz.hT rfl (.tmp rfl) () rfl trivial fun W _ => NewBx.nil _ _
end Go.Proofs.YtnpfkmbcejgnjaaGreatDoor
