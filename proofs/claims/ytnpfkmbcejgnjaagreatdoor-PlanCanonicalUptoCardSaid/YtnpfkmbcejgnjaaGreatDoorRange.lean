/-
  Are the numbers of a side in their ranges.
-/
import Derived.Test.YtnpfkmbcejgnjaaGreatDoorSides
import Derived.Test.YtnpfkmbcejgnjaaGreatDoorAn
namespace Go.Proofs.YtnpfkmbcejgnjaaGreatDoor
-- OLD
open Go Go.RowKit Go.Am
set_option maxRecDepth 10000
-- BOXES 6
def btw (n a b : Int) : Bool := decide (a ≤ n) && decide (n ≤ b)
theorem between_gives (n a b : Int) : Gives Tryz.prog 113 [.int .i64 n, .int .i64 a, .int .i64 b] (.bool (btw n a b)) := by
  intro W
  refine calls_enter Tryz.func113 rfl rfl rfl ?_
  refine zA ?_
  refine zB ?_
  refine wl_pure Tryz.hT rfl rfl rfl ?_
  refine zC ?_
  refine zE ?_
  refine zA ?_
  refine zB ?_
  refine wl_pure Tryz.hT rfl rfl rfl ?_
  refine wl_pure Tryz.hT rfl rfl rfl ?_
  refine wl_pure Tryz.hT rfl rfl rfl ?_
  refine wl_pure Tryz.hT rfl rfl rfl ?_
  refine wl_part 10 rfl (fun h10 => ?_) (fun h10 => ?_)
  · refine wl_pure Tryz.hT rfl rfl rfl ?_
    refine wl_pure Tryz.hT rfl rfl rfl ?_
    refine wl_pure Tryz.hT rfl rfl rfl ?_
    refine wl_pure Tryz.hT rfl rfl rfl ?_
    refine wl_pure Tryz.hT rfl rfl rfl ?_
    refine zC ?_
    refine zE ?_
    refine zO ?_
    exact ne_ret1 Tryz.hT rfl (.tmp rfl) () (by simp_all [btw]) trivial fun W _ => NewBx.nil _ _
  · refine wl_skip rfl rfl ?_
    refine wl_skip rfl rfl ?_
    refine wl_skip rfl rfl ?_
    refine wl_pure Tryz.hT rfl rfl rfl ?_
    refine wl_pure Tryz.hT rfl rfl rfl ?_
    refine zC ?_
    refine zE ?_
    refine zO ?_
    exact ne_ret1 Tryz.hT rfl (.tmp rfl) () (by simp_all [btw] <;> intros <;> omega) trivial fun W _ => NewBx.nil _ _
/-- The numbers of a side are in their ranges. -/
def rgd (s : Sd) : Bool := (if s.gable then s.rise == 0 && s.run == 0 else btw s.rise 1 48 && btw s.run 1 48) && (btw s.x 0 65536 && btw s.y 0 65536 && btw s.plate 0 65536 && btw s.over 0 65536)
def num (s : Sd) : Nat → Int
  | 0 => s.x
  | 1 => s.y
  | 2 => s.plate
  | _ => s.over
set_option maxHeartbeats 4000000 in
theorem ranged_gives (s : Sd) : Gives Tryz.prog 57 [s.val] (.bool (rgd s)) := by
  intro W
  refine calls_enter Tryz.func57 rfl rfl rfl ?_
  (refine wc_seq ?_; refine wc_region ?_)
  refine wl_box rfl rfl rfl rfl ?_
  intro
  refine wl_pure Tryz.hT rfl rfl rfl ?_
  refine wl_nil ?_
  refine ne_then ?_
  rename_i b1
  refine wc_cut (X := Unit) (fun _ => [(1, .pointer (some ⟨b1, 0, none⟩))]) (fun _ => [⟨b1, 42, s.cells, true, none⟩]) (fun _ => (if s.gable then s.rise == 0 && s.run == 0 else btw s.rise 1 48 && btw s.run 1 48) = true) ?_ ?_
  · (refine wc_seq ?_; refine wc_region ?_)
    refine wl_pure Tryz.hT rfl rfl rfl ?_
    refine wl_loadBx 0 Tryz.hT rfl rfl rfl rfl rfl rfl rfl rfl ?_
    refine wl_nil ?_
    refine ne_then ?_
    refine wc_cond rfl (fun hg => ?_) (fun hg => ?_)
    · (refine wc_seq ?_; refine wc_region ?_)
      refine wl_pure Tryz.hT rfl rfl rfl ?_
      refine wl_loadBx 0 Tryz.hT rfl rfl rfl rfl rfl rfl rfl rfl ?_
      refine wl_pure Tryz.hT rfl rfl rfl ?_
      refine wl_pure Tryz.hT rfl rfl rfl ?_
      refine wl_part 10 rfl (fun h10 => ?_) (fun h10 => ?_)
      · refine wl_skip rfl rfl ?_
        refine wl_skip rfl rfl ?_
        refine wl_skip rfl rfl ?_
        refine wl_pure Tryz.hT rfl rfl rfl ?_
        refine zC ?_
        refine zE ?_
        refine zR rfl ?_
        refine zA ?_
        refine zB ?_
        refine wl_pure Tryz.hT rfl rfl rfl ?_
        refine zC ?_
        refine zE ?_
        refine zO ?_
        refine zP ?_
        exact ne_ret1 Tryz.hT rfl (.tmp rfl) () (by simp_all [rgd]) trivial fun W _ => NewBx.nil _ _
      · refine wl_pure Tryz.hT rfl rfl rfl ?_
        refine wl_loadBx 0 Tryz.hT rfl rfl rfl rfl rfl rfl rfl rfl ?_
        refine wl_pure Tryz.hT rfl rfl rfl ?_
        refine wl_pure Tryz.hT rfl rfl rfl ?_
        refine wl_nil ?_
        refine ne_then ?_
        refine wc_cond rfl (fun h14 => ?_) (fun h14 => ?_)
        · refine zA ?_
          refine zB ?_
          refine wl_pure Tryz.hT rfl rfl rfl ?_
          refine zC ?_
          refine zE ?_
          refine zO ?_
          refine zP ?_
          exact ne_ret1 Tryz.hT rfl (.tmp rfl) () (by simp_all [rgd]) trivial fun W _ => NewBx.nil _ _
        · refine zI ?_
          exact ne_cut () (by simp_all) ⟨rfl, trivial⟩ [] rfl
    · (refine wc_seq ?_; refine wc_region ?_)
      refine wl_pure Tryz.hT rfl rfl rfl ?_
      refine wl_loadBx 0 Tryz.hT rfl rfl rfl rfl rfl rfl rfl rfl ?_
      refine wl_call1 rfl rfl rfl rfl rfl rfl (by kernel_rfl) (fun W _ => between_gives _ _ _ W) ?_
      refine wl_pure Tryz.hT rfl rfl rfl ?_
      refine wl_pure Tryz.hT rfl rfl rfl ?_
      refine wl_part 19 rfl (fun h19 => ?_) (fun h19 => ?_)
      · refine wl_skip rfl rfl ?_
        refine wl_skip rfl rfl ?_
        refine wl_skip rfl rfl ?_
        refine wl_skip rfl rfl ?_
        refine wl_pure Tryz.hT rfl rfl rfl ?_
        refine zC ?_
        refine zE ?_
        refine zR rfl ?_
        refine zA ?_
        refine zB ?_
        refine wl_pure Tryz.hT rfl rfl rfl ?_
        refine zC ?_
        refine zE ?_
        refine zO ?_
        refine zP ?_
        exact ne_ret1 Tryz.hT rfl (.tmp rfl) () (by simp_all [rgd]) trivial fun W _ => NewBx.nil _ _
      · refine wl_pure Tryz.hT rfl rfl rfl ?_
        refine wl_loadBx 0 Tryz.hT rfl rfl rfl rfl rfl rfl rfl rfl ?_
        refine wl_call1 rfl rfl rfl rfl rfl rfl (by kernel_rfl) (fun W _ => between_gives _ _ _ W) ?_
        refine wl_pure Tryz.hT rfl rfl rfl ?_
        refine wl_pure Tryz.hT rfl rfl rfl ?_
        refine wl_nil ?_
        refine ne_then ?_
        refine wc_cond rfl (fun h14 => ?_) (fun h14 => ?_)
        · refine zA ?_
          refine zB ?_
          refine wl_pure Tryz.hT rfl rfl rfl ?_
          refine zC ?_
          refine zE ?_
          refine zO ?_
          refine zP ?_
          exact ne_ret1 Tryz.hT rfl (.tmp rfl) () (by simp_all [rgd]) trivial fun W _ => NewBx.nil _ _
        · refine zI ?_
          exact ne_cut () (by simp_all) ⟨rfl, trivial⟩ [] rfl
  · intro _ hg
    refine zA ?_
    refine zA ?_
    refine zB ?_
    refine wl_pure Tryz.hT rfl rfl rfl ?_
    refine wl_loadBx 0 Tryz.hT rfl rfl rfl rfl rfl rfl rfl rfl ?_
    refine wl_pure Tryz.hT rfl rfl rfl ?_
    refine wl_loadBx 0 Tryz.hT rfl rfl rfl rfl rfl rfl rfl rfl ?_
    refine wl_pure Tryz.hT rfl rfl rfl ?_
    refine wl_loadBx 0 Tryz.hT rfl rfl rfl rfl rfl rfl rfl rfl ?_
    refine wl_pure Tryz.hT rfl rfl rfl ?_
    refine wl_loadBx 0 Tryz.hT rfl rfl rfl rfl rfl rfl rfl rfl ?_
    refine wl_buildRow (.int .i64 0) Tryz.hT rfl rfl rfl rfl rfl (fun W => by kernel_rfl) rfl rfl (by rfl) (by rfl) rfl fun b33 => ?_
    refine wl_pure Tryz.hT rfl rfl rfl ?_
    refine wl_pure Tryz.hT rfl rfl rfl ?_
    refine zC ?_
    refine zE ?_
    refine zH ?_
    refine wc_loop (X := Nat) (fun k => [(33, .slice (some ⟨b33, 0, none⟩) 4 4), (34, .int .i64 4), (35, .int .i64 (k : Nat))]) (fun _ => [⟨b1, 42, s.cells, true, none⟩, ⟨b33, 3, [.int .i64 s.x, .int .i64 s.y, .int .i64 s.plate, .int .i64 s.over], true, none⟩])
      (fun k => k ≤ 4 ∧ ∀ i, i < k → btw (num s i) 0 65536 = true) (fun k => 4 - k) 0 ⟨by omega, fun i hi => by omega⟩ ⟨rfl, rfl, rfl, trivial⟩ [] rfl ?_
    rintro k ⟨hk, hin⟩
    (refine wc_seq ?_; refine wc_region ?_)
    refine wl_pure Tryz.hT rfl rfl rfl ?_
    refine wl_nil ?_
    refine ne_then ?_
    refine wc_cut (X := Unit) (fun _ => [(33, .slice (some ⟨b33, 0, none⟩) 4 4), (34, .int .i64 4), (35, .int .i64 (k : Nat))]) (fun _ => [⟨b1, 42, s.cells, true, none⟩, ⟨b33, 3, [.int .i64 s.x, .int .i64 s.y, .int .i64 s.plate, .int .i64 s.over], true, none⟩]) (fun _ => k < 4) ?_ ?_
    · skip
      refine wc_cond rfl (fun h => ?_) (fun h => ?_)
      · refine zI ?_
        exact ne_cut () (by simp at h; omega) ⟨rfl, rfl, rfl, trivial⟩ [] rfl
      · refine zJ ?_
        refine zK ?_
        refine zK ?_
        refine zL ?_
        refine zE ?_
        refine zA ?_
        refine zB ?_
        refine wl_pure Tryz.hT rfl rfl rfl ?_
        refine zC ?_
        refine zE ?_
        refine zO ?_
        have : k = 4 := by simp at h; omega
        subst this
        exact ne_ret1 Tryz.hT rfl (.tmp rfl) () (by have h0 := hin 0 (by omega); have h1 := hin 1 (by omega); have h2 := hin 2 (by omega); have h3 := hin 3 (by omega); simp only [num] at h0 h1 h2 h3; simp [rgd, h0, h1, h2, h3, hg]) trivial fun W _ => NewBx.nil _ _
    · intro _ hk
      refine zA ?_
      refine zH ?_
      refine zA ?_
      refine zB ?_
      refine wl_indexAddr Tryz.hT rfl rfl rfl rfl rfl rfl rfl (by omega) (by omega) ?_
      refine wl_load (v := .int .i64 (num s k)) rfl rfl rfl rfl (fun W hp => bx_load (k := 1) Tryz.hT rfl rfl rfl (by
        match k, hk with
        | 0, _ => rfl
        | 1, _ => rfl
        | 2, _ => rfl
        | 3, _ => rfl) W hp) ?_
      refine wl_pure Tryz.hT rfl rfl rfl ?_
      refine zC ?_
      refine zE ?_
      refine zA ?_
      refine zB ?_
      refine wl_pure Tryz.hT rfl rfl rfl ?_
      refine wl_call1 rfl rfl rfl rfl rfl rfl (by kernel_rfl) (fun W _ => between_gives _ _ _ W) ?_
      refine wl_pure Tryz.hT rfl rfl rfl ?_
      refine wl_nil ?_
      refine ne_then ?_
      refine wc_cond rfl (fun h => ?_) (fun h => ?_)
      · refine zA ?_
        refine zB ?_
        refine wl_pure Tryz.hT rfl rfl rfl ?_
        refine zC ?_
        refine zE ?_
        refine zO ?_
        refine zQ ?_
        refine zP ?_
        refine zP ?_
        refine zQ ?_
        refine zP ?_
        have h : btw (num s k) 0 65536 = false := by simpa using h
        have hr : rgd s = false := by
          match k, hk with
          | 0, _ => simp only [num] at h; simp [rgd, h]
          | 1, _ => simp only [num] at h; simp [rgd, h]
          | 2, _ => simp only [num] at h; simp [rgd, h]
          | 3, _ => simp only [num] at h; simp [rgd, h]
        exact ne_ret1 Tryz.hT rfl (.tmp rfl) () (by rw [hr]) trivial fun W _ => NewBx.nil _ _
      · refine zI ?_
        refine zN ?_
        refine zE ?_
        refine zB ?_
        refine wl_pure Tryz.hT rfl rfl rfl ?_
        refine wl_pure Tryz.hT rfl rfl rfl ?_
        refine zC ?_
        refine ne_loop (k + 1) ⟨hk, fun i hi => ?_⟩ (by omega) ⟨rfl, rfl, congrArg (fun z => some (Value.int .i64 z)) (wrap_id (x := (k : Int) + 1) (by omega) (by omega)), trivial⟩ [] rfl
        by_cases e : i = k
        · subst e; simpa using h
        · exact hin i (by omega)
end Go.Proofs.YtnpfkmbcejgnjaaGreatDoor
