/-
  The rectangle of a side; do two rectangles meet.
-/
import Derived.Test.YtnpfkmbcejgnjaaGreatDoorSides
namespace Go.Proofs.YtnpfkmbcejgnjaaGreatDoor
-- OLD
open Go Go.RowKit Go.Am
set_option maxRecDepth 10000
-- BOXES 6
abbrev boxV (a b c d : Int) : Value := .agg #[.int .i64 a, .int .i64 b, .int .i64 c, .int .i64 d]
theorem boxOf_gives (s t u : Sd) : Gives Tryz.prog 115 [arVal s t u] (boxV (if u.x < t.x then u.x else t.x) (if u.y < t.y then u.y else t.y) (if u.x > t.x then u.x else t.x) (if u.y > t.y then u.y else t.y)) := by
  intro W
  refine calls_enter Tryz.func115 rfl rfl rfl ?_
  refine zA ?_
  refine zB ?_
  refine wl_box rfl rfl rfl rfl ?_
  intro
  refine wl_alloc (z := boxV 0 0 0 0) rfl rfl rfl (fun W => by kernel_rfl) fun b2 => ?_
  refine wl_nil ?_
  refine ne_then ?_
  refine wc_seq ?_
  refine wc_lateS (X := Nat × Nat) (fun x => [(2, .pointer (some ⟨b2, 0, none⟩)), (3, .pointer (some ⟨x.1, 0, none⟩)), (4, .pointer (some ⟨x.2, 0, none⟩))])
    (fun x => [⟨b2, 141, (boxV 0 0 0 0).cells.toList, true, none⟩, ⟨x.1, 87, (spot t.x t.y).cells.toList, true, none⟩, ⟨x.2, 87, (spot u.x u.y).cells.toList, true, none⟩]) 4 Tryz.mixed (by kernel_rfl) ?_ ?_
  · refine wq_pure Tryz.hT rfl rfl rfl ?_
    refine wq_loadBx 0 Tryz.hT rfl rfl rfl rfl rfl rfl rfl rfl ?_
    refine wq_call1 rfl rfl rfl rfl rfl rfl (by kernel_rfl) (fun W _ => corner_gives t W) ?_
    refine wq_pure Tryz.hT rfl rfl rfl ?_
    refine wq_loadBx 0 Tryz.hT rfl rfl rfl rfl rfl rfl rfl rfl ?_
    refine wq_call1 rfl rfl rfl rfl rfl rfl (by kernel_rfl) (fun W _ => corner_gives u W) ?_
    refine zG ?_
    refine wt_step rfl rfl (by ((repeat (first | refine Weak.same ?_ | refine Weak.off rfl ?_)); exact trivial)) ?_
    refine RS.cons ?_ (RS.cons ?_ RS.nil)
    · refine wl_alloc (z := spot 0 0) rfl rfl rfl (fun W => by kernel_rfl) fun b3 => ?_
      refine zC ?_
      refine zF ?_
      refine wt_step rfl rfl (by ((repeat (first | refine Weak.same ?_ | refine Weak.off rfl ?_)); exact trivial)) ?_
      refine RS.cons ?_ RS.nil
      refine wl_alloc (z := spot 0 0) rfl rfl rfl (fun W => by kernel_rfl) fun b4 => ?_
      refine zC ?_
      refine zF ?_
      refine wt_step rfl rfl (by ((repeat (first | refine Weak.same ?_ | refine Weak.off rfl ?_)); exact trivial)) ?_
      refine RS.cons ?_ RS.nil
      refine wl_storeBx 2 Tryz.hT rfl rfl rfl rfl rfl rfl rfl rfl rfl rfl rfl ?_
      refine zC ?_
      refine zF ?_
      refine wt_step rfl rfl (by ((repeat (first | refine Weak.same ?_ | refine Weak.off rfl ?_)); exact trivial)) ?_
      refine RS.cons ?_ RS.nil
      refine wl_storeBx 3 Tryz.hT rfl rfl rfl rfl rfl rfl rfl rfl rfl rfl rfl ?_
      refine zC ?_
      refine zF ?_
      refine wt_done rfl (by ((repeat (first | refine Weak.same ?_ | refine Weak.off rfl ?_)); exact trivial)) ?_
      exact ne_late (b3, b4) ⟨rfl, rfl, rfl, trivial⟩ [1, 2, 3] (by decide) rfl
    · refine wl_alloc (z := spot 0 0) rfl rfl rfl (fun W => by kernel_rfl) fun b4 => ?_
      refine zC ?_
      refine zF ?_
      refine wt_step rfl rfl (by ((repeat (first | refine Weak.same ?_ | refine Weak.off rfl ?_)); exact trivial)) ?_
      refine RS.cons ?_ RS.nil
      refine wl_alloc (z := spot 0 0) rfl rfl rfl (fun W => by kernel_rfl) fun b3 => ?_
      refine zC ?_
      refine zF ?_
      refine wt_step rfl rfl (by ((repeat (first | refine Weak.same ?_ | refine Weak.off rfl ?_)); exact trivial)) ?_
      refine RS.cons ?_ RS.nil
      refine wl_storeBx 3 Tryz.hT rfl rfl rfl rfl rfl rfl rfl rfl rfl rfl rfl ?_
      refine zC ?_
      refine zF ?_
      refine wt_step rfl rfl (by ((repeat (first | refine Weak.same ?_ | refine Weak.off rfl ?_)); exact trivial)) ?_
      refine RS.cons ?_ RS.nil
      refine wl_storeBx 2 Tryz.hT rfl rfl rfl rfl rfl rfl rfl rfl rfl rfl rfl ?_
      refine zC ?_
      refine zF ?_
      refine wt_done rfl (by ((repeat (first | refine Weak.same ?_ | refine Weak.off rfl ?_)); exact trivial)) ?_
      exact ne_late (b3, b4) ⟨rfl, rfl, rfl, trivial⟩ [1, 3, 2] (by decide) rfl
  · rintro ⟨b3, b4⟩
    refine zE ?_
    refine zA ?_
    refine zB ?_
    refine wl_pure Tryz.hT rfl rfl rfl ?_
    refine wl_loadBx 1 Tryz.hT rfl rfl rfl rfl rfl rfl rfl rfl ?_
    refine wl_pure Tryz.hT rfl rfl rfl ?_
    refine wl_loadBx 2 Tryz.hT rfl rfl rfl rfl rfl rfl rfl rfl ?_
    refine wl_pure Tryz.hT rfl rfl rfl ?_
    refine wl_pure Tryz.hT rfl rfl rfl ?_
    refine wl_loadBx 1 Tryz.hT rfl rfl rfl rfl rfl rfl rfl rfl ?_
    refine wl_pure Tryz.hT rfl rfl rfl ?_
    refine wl_loadBx 2 Tryz.hT rfl rfl rfl rfl rfl rfl rfl rfl ?_
    refine wl_pure Tryz.hT rfl rfl rfl ?_
    refine wl_build (spot 0 0) Tryz.hT rfl rfl rfl rfl rfl (fun W => by kernel_rfl) rfl rfl ?_
    refine wl_pure Tryz.hT rfl rfl rfl ?_
    refine wl_loadBx 1 Tryz.hT rfl rfl rfl rfl rfl rfl rfl rfl ?_
    refine wl_pure Tryz.hT rfl rfl rfl ?_
    refine wl_loadBx 2 Tryz.hT rfl rfl rfl rfl rfl rfl rfl rfl ?_
    refine wl_pure Tryz.hT rfl rfl rfl ?_
    refine wl_pure Tryz.hT rfl rfl rfl ?_
    refine wl_loadBx 1 Tryz.hT rfl rfl rfl rfl rfl rfl rfl rfl ?_
    refine wl_pure Tryz.hT rfl rfl rfl ?_
    refine wl_loadBx 2 Tryz.hT rfl rfl rfl rfl rfl rfl rfl rfl ?_
    refine wl_pure Tryz.hT rfl rfl rfl ?_
    refine wl_build (spot 0 0) Tryz.hT rfl rfl rfl rfl rfl (fun W => by kernel_rfl) rfl rfl ?_
    refine wl_build (boxV 0 0 0 0) Tryz.hT rfl rfl rfl rfl rfl (fun W => by kernel_rfl) rfl rfl ?_
    refine wl_storeBx 0 Tryz.hT rfl rfl rfl rfl rfl rfl rfl rfl rfl rfl rfl ?_
    refine zC ?_
    refine zE ?_
    refine zO ?_
    exact ne_ret1 Tryz.hT rfl (.cell 0 rfl rfl rfl rfl rfl) () rfl trivial fun W _ => NewBx.nil _ _
theorem meets_gives (a b c d a' b' c' d' : Int) : Gives Tryz.prog 116 [boxV a b c d, boxV a' b' c' d'] (.bool (decide (a ≤ c') && decide (a' ≤ c) && decide (b ≤ d') && decide (b' ≤ d))) := by
  intro W
  refine calls_enter Tryz.func116 rfl rfl rfl ?_
  refine zA ?_
  refine zB ?_
  refine wl_box rfl rfl rfl rfl ?_
  intro
  refine wl_box rfl rfl rfl rfl ?_
  intro
  refine wl_pure Tryz.hT rfl rfl rfl ?_
  refine zC ?_
  refine zE ?_
  refine zA ?_
  refine zB ?_
  refine wl_pure Tryz.hT rfl rfl rfl ?_
  refine wl_pure Tryz.hT rfl rfl rfl ?_
  refine wl_loadBx 0 Tryz.hT rfl rfl rfl rfl rfl rfl rfl rfl ?_
  refine wl_pure Tryz.hT rfl rfl rfl ?_
  refine wl_pure Tryz.hT rfl rfl rfl ?_
  refine wl_loadBx 1 Tryz.hT rfl rfl rfl rfl rfl rfl rfl rfl ?_
  refine wl_pure Tryz.hT rfl rfl rfl ?_
  refine wl_pure Tryz.hT rfl rfl rfl ?_
  refine wl_part 12 rfl (fun h12 => ?_) (fun h12 => ?_)
  · refine wl_pure Tryz.hT rfl rfl rfl ?_
    refine wl_pure Tryz.hT rfl rfl rfl ?_
    refine wl_loadBx 1 Tryz.hT rfl rfl rfl rfl rfl rfl rfl rfl ?_
    refine wl_pure Tryz.hT rfl rfl rfl ?_
    refine wl_pure Tryz.hT rfl rfl rfl ?_
    refine wl_loadBx 0 Tryz.hT rfl rfl rfl rfl rfl rfl rfl rfl ?_
    refine wl_pure Tryz.hT rfl rfl rfl ?_
    refine wl_pure Tryz.hT rfl rfl rfl ?_
    refine wl_pure Tryz.hT rfl rfl rfl ?_
    refine wl_part 21 rfl (fun h21 => ?_) (fun h21 => ?_)
    · refine wl_pure Tryz.hT rfl rfl rfl ?_
      refine wl_pure Tryz.hT rfl rfl rfl ?_
      refine wl_loadBx 0 Tryz.hT rfl rfl rfl rfl rfl rfl rfl rfl ?_
      refine wl_pure Tryz.hT rfl rfl rfl ?_
      refine wl_pure Tryz.hT rfl rfl rfl ?_
      refine wl_loadBx 1 Tryz.hT rfl rfl rfl rfl rfl rfl rfl rfl ?_
      refine wl_pure Tryz.hT rfl rfl rfl ?_
      refine wl_pure Tryz.hT rfl rfl rfl ?_
      refine wl_pure Tryz.hT rfl rfl rfl ?_
      refine wl_part 30 rfl (fun h30 => ?_) (fun h30 => ?_)
      · refine wl_pure Tryz.hT rfl rfl rfl ?_
        refine wl_pure Tryz.hT rfl rfl rfl ?_
        refine wl_loadBx 1 Tryz.hT rfl rfl rfl rfl rfl rfl rfl rfl ?_
        refine wl_pure Tryz.hT rfl rfl rfl ?_
        refine wl_pure Tryz.hT rfl rfl rfl ?_
        refine wl_loadBx 0 Tryz.hT rfl rfl rfl rfl rfl rfl rfl rfl ?_
        refine wl_pure Tryz.hT rfl rfl rfl ?_
        refine wl_pure Tryz.hT rfl rfl rfl ?_
        refine wl_pure Tryz.hT rfl rfl rfl ?_
        refine zC ?_
        refine zE ?_
        refine zO ?_
        exact ne_ret1 Tryz.hT rfl (.tmp rfl) () (by simp_all <;> (intros; omega)) trivial fun W _ => NewBx.nil _ _
      · refine wl_skip rfl rfl ?_
        refine wl_skip rfl rfl ?_
        refine wl_skip rfl rfl ?_
        refine wl_skip rfl rfl ?_
        refine wl_skip rfl rfl ?_
        refine wl_skip rfl rfl ?_
        refine wl_skip rfl rfl ?_
        refine wl_pure Tryz.hT rfl rfl rfl ?_
        refine wl_pure Tryz.hT rfl rfl rfl ?_
        refine zC ?_
        refine zE ?_
        refine zO ?_
        exact ne_ret1 Tryz.hT rfl (.tmp rfl) () (by simp_all <;> (intros; omega)) trivial fun W _ => NewBx.nil _ _
    · refine wl_skip rfl rfl ?_
      refine wl_skip rfl rfl ?_
      refine wl_skip rfl rfl ?_
      refine wl_skip rfl rfl ?_
      refine wl_skip rfl rfl ?_
      refine wl_skip rfl rfl ?_
      refine wl_skip rfl rfl ?_
      refine wl_pure Tryz.hT rfl rfl rfl ?_
      refine wl_pure Tryz.hT rfl rfl rfl ?_
      refine wl_skip rfl rfl ?_
      refine wl_skip rfl rfl ?_
      refine wl_skip rfl rfl ?_
      refine wl_skip rfl rfl ?_
      refine wl_skip rfl rfl ?_
      refine wl_skip rfl rfl ?_
      refine wl_skip rfl rfl ?_
      refine wl_pure Tryz.hT rfl rfl rfl ?_
      refine wl_pure Tryz.hT rfl rfl rfl ?_
      refine zC ?_
      refine zE ?_
      refine zO ?_
      exact ne_ret1 Tryz.hT rfl (.tmp rfl) () (by simp_all <;> (intros; omega)) trivial fun W _ => NewBx.nil _ _
  · refine wl_skip rfl rfl ?_
    refine wl_skip rfl rfl ?_
    refine wl_skip rfl rfl ?_
    refine wl_skip rfl rfl ?_
    refine wl_skip rfl rfl ?_
    refine wl_skip rfl rfl ?_
    refine wl_skip rfl rfl ?_
    refine wl_pure Tryz.hT rfl rfl rfl ?_
    refine wl_pure Tryz.hT rfl rfl rfl ?_
    refine wl_skip rfl rfl ?_
    refine wl_skip rfl rfl ?_
    refine wl_skip rfl rfl ?_
    refine wl_skip rfl rfl ?_
    refine wl_skip rfl rfl ?_
    refine wl_skip rfl rfl ?_
    refine wl_skip rfl rfl ?_
    refine wl_pure Tryz.hT rfl rfl rfl ?_
    refine wl_pure Tryz.hT rfl rfl rfl ?_
    refine wl_skip rfl rfl ?_
    refine wl_skip rfl rfl ?_
    refine wl_skip rfl rfl ?_
    refine wl_skip rfl rfl ?_
    refine wl_skip rfl rfl ?_
    refine wl_skip rfl rfl ?_
    refine wl_skip rfl rfl ?_
    refine wl_pure Tryz.hT rfl rfl rfl ?_
    refine wl_pure Tryz.hT rfl rfl rfl ?_
    refine zC ?_
    refine zE ?_
    refine zO ?_
    exact ne_ret1 Tryz.hT rfl (.tmp rfl) () (by simp_all <;> (intros; omega)) trivial fun W _ => NewBx.nil _ _
end Go.Proofs.YtnpfkmbcejgnjaaGreatDoor
