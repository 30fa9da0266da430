/-
  Is a ring shaped as it must be; is a corner inside a ring.
-/
import Derived.Test.YtnpfkmbcejgnjaaGreatDoorArea
import Derived.Test.YtnpfkmbcejgnjaaGreatDoorAn
namespace Go.Proofs.YtnpfkmbcejgnjaaGreatDoor
-- OLD
open Go Go.RowKit Go.Am
set_option maxRecDepth 10000
-- BOXES 8
-- EQB 4
/-- Is the corner at the beginning of a side as it must be. -/
def okAt (s t u : Sd) : Bool :=
  !((w64 (u.x - t.x) == 0) == (w64 (u.y - t.y) == 0)) && !((w64 (t.x - s.x) == 0) == (w64 (u.x - t.x) == 0))
def okSide (l : List Sd) (k : Nat) : Bool := okAt (sd l (prv l.length k)) (sd l k) (sd l (nxt l.length k))
def shp (l : List Sd) : Bool := decide (4 ≤ l.length) && (List.range l.length).all (okSide l)
theorem shp_false {l : List Sd} {k : Nat} (hk : k < l.length) (h : okSide l k = false) : shp l = false := by
  unfold shp
  have : (List.range l.length).all (okSide l) = false := by
    apply Bool.eq_false_iff.2
    intro h2
    have := List.all_eq_true.1 h2 k (List.mem_range.2 hk)
    rw [h] at this; cases this
  rw [this, Bool.and_false]
set_option maxHeartbeats 4000000 in
theorem shaped_gives (W : World) (p : Option Addr) (cap : Nat) (l : List Sd) (hn : l.length < 4611686018427387904) (hR : RingP W p l) :
    CallsR Tryz.prog 60 #[slv p l.length cap] W (fun _ : Unit => .bool (shp l)) (fun _ => True) (fun _ => []) := by
  refine calls_enter (args := [slv p l.length cap]) Tryz.func60 rfl rfl rfl ?_
  refine zA ?_
  refine zB ?_
  refine wl_alloc (z := .bool false) rfl rfl rfl (fun W => by kernel_rfl) fun b2 => ?_
  refine wl_nil ?_
  refine ne_then ?_
  refine wc_cut (X := Unit) (fun _ => [(0, slv p l.length cap), (2, .pointer (some ⟨b2, 0, none⟩))]) (fun _ => [⟨b2, 4, [.bool false], true, none⟩]) (fun _ => 4 ≤ l.length) ?_ ?_
  · (refine wc_seq ?_; refine wc_region ?_)
    refine wl_pure Tryz.hT rfl rfl rfl ?_
    refine wl_pure Tryz.hT rfl rfl rfl ?_
    refine wl_pure Tryz.hT rfl rfl rfl ?_
    refine wl_nil ?_
    refine ne_then ?_
    refine wc_cond rfl (fun h => ?_) (fun h => ?_)
    · refine zA ?_
      refine zB ?_
      refine wl_storeBx 0 Tryz.hT rfl rfl rfl rfl rfl rfl rfl rfl rfl rfl rfl ?_
      refine zC ?_
      refine zE ?_
      refine zO ?_
      refine zP ?_
      have hs : shp l = false := by simp at h; simp [shp]; omega
      exact ne_ret1 Tryz.hT rfl (.cell 0 rfl rfl rfl rfl rfl) () (by rw [hs]) trivial fun W _ => NewBx.nil _ _
    · refine zI ?_
      exact ne_cut () (by simp at h; omega) ⟨rfl, rfl, trivial⟩ [] rfl
  intro _ h4
  refine zA ?_
  refine zA ?_
  refine zB ?_
  refine wl_pure Tryz.hT rfl rfl rfl ?_
  refine wl_call (X := Nat) rfl rfl rfl rfl rfl rfl (by kernel_rfl) (fun W _ => sides_gives p l.length cap W) ?_
  intro b _
  refine zC ?_
  refine zE ?_
  refine zH ?_
  refine wc_range (X := Bool × Nat) (fun x => [⟨b2, 4, [.bool x.1], true, none⟩, ⟨b, 27, [slv p l.length cap], true, none⟩]) (fun k x => x.1 = false ∧ x.2 = k ∧ ∀ i, i < k → okSide l i = true) (fun c x => c = .ret ∧ x.1 = false ∧ ∃ k, k < l.length ∧ okSide l k = false) (false, 0) rfl (by kernel_rfl) (sides_iter b p cap l hn) (fun _ => rfl) ⟨rfl, rfl, fun i hi => by omega⟩ [] rfl (fun k x W _ hp => SidesNeed.mk' hR hp 1 rfl) ?_ ?_ ?_
  · rintro k ⟨_, _⟩ d L rec hk ⟨rfl, rfl, hok⟩ hrec
    rename_i k
    refine zB ?_
    refine wl_alloc (z := arVal default default default) rfl rfl rfl (fun W => by kernel_rfl) fun b4 => ?_
    refine wl_storeBx 4 Tryz.hT rfl rfl rfl rfl rfl rfl rfl rfl rfl rfl rfl ?_
    refine zC ?_
    refine ne_begin 3 hrec rfl ?_
    refine wc_block ?_
    refine wc_seq ?_
    refine wc_lateS (X := Nat × Nat) (fun x => [(2, .pointer (some ⟨b2, 0, none⟩)), (5, .pointer (some ⟨x.1, 0, none⟩)), (6, .pointer (some ⟨x.2, 0, none⟩))])
      (fun x => [⟨b2, 4, [.bool false], true, none⟩, ⟨b, 27, [slv p l.length cap], true, none⟩, rawD d, rawL L rec .busy none, ⟨b4, 72, (arVal (sd l (prv l.length k)) (sd l k) (sd l (nxt l.length k))).cells.toList, true, none⟩,
        ⟨x.1, 87, (spot (w64 ((sd l k).x - (sd l (prv l.length k)).x)) (w64 ((sd l k).y - (sd l (prv l.length k)).y))).cells.toList, true, none⟩,
        ⟨x.2, 87, (spot (w64 ((sd l (nxt l.length k)).x - (sd l k).x)) (w64 ((sd l (nxt l.length k)).y - (sd l k).y))).cells.toList, true, none⟩]) 4 Tryz.mixed (by kernel_rfl) ?_ ?_
    · refine wq_pure Tryz.hT rfl rfl rfl ?_
      refine wq_loadBx 4 Tryz.hT rfl rfl rfl rfl rfl rfl rfl rfl ?_
      refine wq_call1 rfl rfl rfl rfl rfl rfl (by kernel_rfl) (fun W _ => corner_gives (sd l (prv l.length k)) W) ?_
      refine wq_pure Tryz.hT rfl rfl rfl ?_
      refine wq_loadBx 4 Tryz.hT rfl rfl rfl rfl rfl rfl rfl rfl ?_
      refine wq_call1 rfl rfl rfl rfl rfl rfl (by kernel_rfl) (fun W _ => corner_gives (sd l k) W) ?_
      refine wq_call1 rfl rfl rfl rfl rfl rfl (by kernel_rfl) (fun W _ => to_gives _ _ _ _ W) ?_
      refine wq_loadBx 4 Tryz.hT rfl rfl rfl rfl rfl rfl rfl rfl ?_
      refine wq_call1 rfl rfl rfl rfl rfl rfl (by kernel_rfl) (fun W _ => way_gives (sd l (prv l.length k)) (sd l k) (sd l (nxt l.length k)) W) ?_
      refine zG ?_
      refine wt_step rfl rfl (by ((repeat (first | refine Weak.same ?_ | refine Weak.off rfl ?_)); exact trivial)) ?_
      refine RS.cons ?_ (RS.cons ?_ RS.nil)
      · refine wl_alloc (z := spot 0 0) rfl rfl rfl (fun W => by kernel_rfl) fun bA => ?_
        refine zC ?_
        refine zF ?_
        refine wt_step rfl rfl (by ((repeat (first | refine Weak.same ?_ | refine Weak.off rfl ?_)); exact trivial)) ?_
        refine RS.cons ?_ RS.nil
        refine wl_alloc (z := spot 0 0) rfl rfl rfl (fun W => by kernel_rfl) fun bB => ?_
        refine zC ?_
        refine zF ?_
        refine wt_step rfl rfl (by ((repeat (first | refine Weak.same ?_ | refine Weak.off rfl ?_)); exact trivial)) ?_
        refine RS.cons ?_ RS.nil
        refine wl_storeBx 5 Tryz.hT rfl rfl rfl rfl rfl rfl rfl rfl rfl rfl rfl ?_
        refine zC ?_
        refine zF ?_
        refine wt_step rfl rfl (by ((repeat (first | refine Weak.same ?_ | refine Weak.off rfl ?_)); exact trivial)) ?_
        refine RS.cons ?_ RS.nil
        refine wl_storeBx 6 Tryz.hT rfl rfl rfl rfl rfl rfl rfl rfl rfl rfl rfl ?_
        refine zC ?_
        refine zF ?_
        refine wt_done rfl (by ((repeat (first | refine Weak.same ?_ | refine Weak.off rfl ?_)); exact trivial)) ?_
        exact ne_late (bA, bB) ⟨rfl, rfl, rfl, trivial⟩ [0, 1, 2, 3, 4, 5, 6] (by decide) rfl
      · refine wl_alloc (z := spot 0 0) rfl rfl rfl (fun W => by kernel_rfl) fun bB => ?_
        refine zC ?_
        refine zF ?_
        refine wt_step rfl rfl (by ((repeat (first | refine Weak.same ?_ | refine Weak.off rfl ?_)); exact trivial)) ?_
        refine RS.cons ?_ RS.nil
        refine wl_alloc (z := spot 0 0) rfl rfl rfl (fun W => by kernel_rfl) fun bA => ?_
        refine zC ?_
        refine zF ?_
        refine wt_step rfl rfl (by ((repeat (first | refine Weak.same ?_ | refine Weak.off rfl ?_)); exact trivial)) ?_
        refine RS.cons ?_ RS.nil
        refine wl_storeBx 6 Tryz.hT rfl rfl rfl rfl rfl rfl rfl rfl rfl rfl rfl ?_
        refine zC ?_
        refine zF ?_
        refine wt_step rfl rfl (by ((repeat (first | refine Weak.same ?_ | refine Weak.off rfl ?_)); exact trivial)) ?_
        refine RS.cons ?_ RS.nil
        refine wl_storeBx 5 Tryz.hT rfl rfl rfl rfl rfl rfl rfl rfl rfl rfl rfl ?_
        refine zC ?_
        refine zF ?_
        refine wt_done rfl (by ((repeat (first | refine Weak.same ?_ | refine Weak.off rfl ?_)); exact trivial)) ?_
        exact ne_late (bA, bB) ⟨rfl, rfl, rfl, trivial⟩ [0, 1, 2, 3, 4, 6, 5] (by decide) rfl
    rintro ⟨bA, bB⟩
    refine zE ?_
    refine zA ?_
    refine zB ?_
    refine wl_pure Tryz.hT rfl rfl rfl ?_
    refine wl_loadBx 6 Tryz.hT rfl rfl rfl rfl rfl rfl rfl rfl ?_
    refine wl_pure Tryz.hT rfl rfl rfl ?_
    refine wl_pure Tryz.hT rfl rfl rfl ?_
    refine wl_loadBx 6 Tryz.hT rfl rfl rfl rfl rfl rfl rfl rfl ?_
    refine wl_pure Tryz.hT rfl rfl rfl ?_
    refine wl_eqB Tryz.underlying4 rfl rfl rfl rfl rfl rfl ?_
    refine wl_pure Tryz.hT rfl rfl rfl ?_
    refine wl_part 30 rfl (fun h30 => ?_) (fun h30 => ?_)
    · refine wl_skip rfl rfl ?_
      refine wl_skip rfl rfl ?_
      refine wl_skip rfl rfl ?_
      refine wl_skip rfl rfl ?_
      refine wl_skip rfl rfl ?_
      refine wl_skip rfl rfl ?_
      refine wl_skip rfl rfl ?_
      refine wl_pure Tryz.hT rfl rfl rfl ?_
      refine zC ?_
      refine zE ?_
      refine zR rfl ?_
      refine zA ?_
      refine zB ?_
      refine wl_storeBx 0 Tryz.hT rfl rfl rfl rfl rfl rfl rfl rfl rfl rfl rfl ?_
      refine zC ?_
      refine zE ?_
      refine zO ?_
      refine zQ ?_
      refine ne_round_ret 3 (false, k) hrec rfl ⟨rfl, rfl, k, hk, ?_⟩ [_, _, _] rfl
      simp [okSide, okAt] at h30 ⊢
      simp [h30]
    · refine wl_pure Tryz.hT rfl rfl rfl ?_
      refine wl_loadBx 5 Tryz.hT rfl rfl rfl rfl rfl rfl rfl rfl ?_
      refine wl_pure Tryz.hT rfl rfl rfl ?_
      refine wl_pure Tryz.hT rfl rfl rfl ?_
      refine wl_loadBx 6 Tryz.hT rfl rfl rfl rfl rfl rfl rfl rfl ?_
      refine wl_pure Tryz.hT rfl rfl rfl ?_
      refine wl_eqB Tryz.underlying4 rfl rfl rfl rfl rfl rfl ?_
      refine wl_pure Tryz.hT rfl rfl rfl ?_
      refine wl_nil ?_
      refine ne_then ?_
      refine wc_cond rfl (fun h => ?_) (fun h => ?_)
      · refine zA ?_
        refine zB ?_
        refine wl_storeBx 0 Tryz.hT rfl rfl rfl rfl rfl rfl rfl rfl rfl rfl rfl ?_
        refine zC ?_
        refine zE ?_
        refine zO ?_
        refine zQ ?_
        refine ne_round_ret 3 (false, k) hrec rfl ⟨rfl, rfl, k, hk, ?_⟩ [_, _, _] rfl
        simp [okSide, okAt] at h ⊢
        intro _
        exact h
      · refine zI ?_
        refine zN ?_
        refine ne_round 3 (false, k + 1) hrec rfl ⟨rfl, rfl, fun i hi => ?_⟩ [_, _, _] rfl
        by_cases e : i = k
        · subst e
          show okAt _ _ _ = true
          unfold okAt
          rw [Bool.and_eq_true, Bool.not_eq_true', Bool.not_eq_true']
          exact ⟨h30, h⟩
        · exact hok i (by show i < k; have : i < k + 1 := hi; omega)
  · rintro ⟨_, _⟩ d L rec ⟨rfl, rfl, hok⟩
    refine zN ?_
    refine zE ?_
    refine zA ?_
    refine zB ?_
    refine wl_storeBx 0 Tryz.hT rfl rfl rfl rfl rfl rfl rfl rfl rfl rfl rfl ?_
    refine zC ?_
    refine zE ?_
    refine zO ?_
    refine ne_mark 2 rfl ?_
    have hs : shp l = true := by simp only [shp, Bool.and_eq_true, decide_eq_true_eq, List.all_eq_true]; exact ⟨h4, fun i hi => hok i (List.mem_range.1 hi)⟩
    exact ne_ret1 Tryz.hT rfl (.cell 0 rfl rfl rfl rfl rfl) () (by rw [hs]) trivial fun W _ => NewBx.nil _ _
  · rintro ⟨_, _⟩ d L rec c ⟨rfl, rfl, k, hk, hf⟩
    refine zO ?_
    refine zQ ?_
    refine zP ?_
    refine ne_mark 2 rfl ?_
    have hs := shp_false hk hf
    exact ne_ret1 Tryz.hT rfl (.cell 0 rfl rfl rfl rfl rfl) () (by rw [hs]) trivial fun W _ => NewBx.nil _ _
end Go.Proofs.YtnpfkmbcejgnjaaGreatDoor
