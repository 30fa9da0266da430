/-
  Do the rings run and lie as they must.
-/
import Derived.Test.YtnpfkmbcejgnjaaGreatDoorInside
import Derived.Test.YtnpfkmbcejgnjaaGreatDoorRings
namespace Go.Proofs.YtnpfkmbcejgnjaaGreatDoor
open Go Go.RowKit Go.Am
set_option maxRecDepth 10000
-- BOXES 2
def placeK (rs : List (List Sd)) (i k : Nat) : Bool := (k == i || i == 0) || (insUp (rg rs k) (sd (rg rs i) 0).x (sd (rg rs i) 0).y (rg rs k).length == (k == 0))
def placeRing (rs : List (List Sd)) (i : Nat) : Bool := (decide (areaUp (rg rs i) (rg rs i).length > 0) == (i == 0)) && (List.range rs.length).all (placeK rs i)
def plc (rs : List (List Sd)) : Bool := (List.range rs.length).all (placeRing rs)
theorem all_range_false {n : Nat} {f : Nat → Bool} {k : Nat} (hk : k < n) (h : f k = false) : (List.range n).all f = false := Bool.eq_false_iff.2 fun h2 => by
  have := List.all_eq_true.1 h2 k (List.mem_range.2 hk)
  rw [h] at this; cases this
theorem natInt_beq (a b : Nat) : ((a : Int) == (b : Int)) = (a == b) := by
  by_cases h : a = b
  · subst h; rw [beq_self_eq_true, beq_self_eq_true]
  · have h1 : (a : Int) ≠ b := by omega
    rw [beq_eq_false_iff_ne.2 h1, beq_eq_false_iff_ne.2 h]
set_option maxHeartbeats 4000000 in
theorem placed_gives (W : World) (p : Option Addr) (cap : Nat) (rs : List (List Sd)) (hn : rs.length < 4611686018427387904) (hl : ∀ l ∈ rs, l.length < 4611686018427387904) (hne : ∀ l ∈ rs, l ≠ []) (hR : RingsP W p rs) :
    CallsR Tryz.prog 62 #[slv p rs.length cap] W (fun _ : Unit => .bool (plc rs)) (fun _ => True) (fun _ => []) := by
  refine calls_enter (args := [slv p rs.length cap]) Tryz.func62 rfl rfl rfl ?_
  refine zA ?_
  refine zB ?_
  refine wl_pure Tryz.hT rfl rfl rfl ?_
  refine wl_nil ?_
  refine zE ?_
  refine zA ?_
  refine zA ?_
  refine zB ?_
  refine wl_pure Tryz.hT rfl rfl rfl ?_
  refine wl_pure Tryz.hT rfl rfl rfl ?_
  refine wl_pure Tryz.hT rfl rfl rfl ?_
  refine wl_nil ?_
  refine zE ?_
  refine zH ?_
  refine wc_loop (X := Nat) (fun i => [(0, slv p rs.length cap), (7, slv p rs.length cap), (8, .int .i64 (rs.length : Nat)), (9, .int .i64 (i : Nat))]) (fun _ => [])
    (fun i => i ≤ rs.length ∧ ∀ j, j < i → placeRing rs j = true) (fun i => rs.length - i) 0 ⟨Nat.zero_le _, fun j hj => absurd hj (Nat.not_lt_zero _)⟩ ⟨rfl, rfl, rfl, rfl, trivial⟩ [] rfl ?_
  rintro i ⟨hi, hok⟩
  refine zA ?_
  refine zB ?_
  refine wl_pure Tryz.hT rfl rfl rfl ?_
  refine wl_nil ?_
  refine zE ?_
  refine zA ?_
  refine wc_cond rfl (fun h => ?_) (fun h => ?_)
  rotate_left
  · have e : i = rs.length := by simp at h; omega
    subst e
    refine zJ ?_
    refine zK ?_
    refine zK ?_
    refine zL ?_
    refine zE ?_
    refine zA ?_
    refine zB ?_
    refine wl_pure Tryz.hT rfl rfl rfl ?_
    refine wl_nil ?_
    refine zE ?_
    refine zO ?_
    have : plc rs = true := List.all_eq_true.2 fun j hj => hok j (List.mem_range.1 hj)
    exact ne_ret1 Tryz.hT rfl (.tmp rfl) () (by rw [this]) trivial fun W _ => NewBx.nil _ _
  have hi : i < rs.length := by simp at h; omega
  clear h
  obtain ⟨b, off, rfl, hrow⟩ := hR.row hi
  obtain ⟨q, cap2, hq1, hq2⟩ := hrow i hi
  have hli := hl _ (List.mem_of_getElem? (rg_get hi))
  have hnei : 0 < (rg rs i).length := List.length_pos_iff.2 (hne _ (List.mem_of_getElem? (rg_get hi)))
  refine zI ?_
  refine zE ?_
  refine zA ?_
  refine zH ?_
  refine zA ?_
  refine zB ?_
  refine wl_pure Tryz.hT rfl rfl rfl ?_
  refine wl_indexAddr Tryz.hT rfl rfl rfl rfl rfl rfl rfl (by omega) (by omega) ?_
  refine wl_load rfl rfl rfl rfl (fun W hp => RowAt.load 0 Tryz.hT rfl ((fun W hp => hq1.hp hp) W hp) rfl) ?_
  refine wl_pure Tryz.hT rfl rfl rfl ?_
  refine wl_pure Tryz.hT rfl rfl rfl ?_
  refine wl_nil ?_
  refine zE ?_
  refine zA ?_
  refine zA ?_
  refine zB ?_
  refine wl_pure Tryz.hT rfl rfl rfl ?_
  refine wl_call1 rfl rfl rfl rfl rfl rfl (by kernel_rfl) (fun W hp => area_gives W q cap2 (rg rs i) hli (hq2.hp hp)) ?_
  refine wl_pure Tryz.hT rfl rfl rfl ?_
  refine wl_pure Tryz.hT rfl rfl rfl ?_
  refine wl_pure Tryz.hT rfl rfl rfl ?_
  refine wl_eqB Tryz.underlying4 rfl rfl rfl rfl rfl rfl ?_
  refine wl_nil ?_
  refine zE ?_
  refine wc_cond rfl (fun h => ?_) (fun h => ?_)
  · refine zA ?_
    refine zB ?_
    refine wl_pure Tryz.hT rfl rfl rfl ?_
    refine wl_nil ?_
    refine zE ?_
    refine zO ?_
    refine zP ?_
    refine zQ ?_
    refine zP ?_
    refine zP ?_
    refine zQ ?_
    refine zP ?_
    have hf : plc rs = false := all_range_false hi (by
      unfold placeRing
      rw [show (decide (areaUp (rg rs i) (rg rs i).length > 0) == (i == 0)) = false by
        have h' := h
        rw [show ((i : Int) == 0) = (i == 0) from natInt_beq i 0] at h'
        simpa using h']
      rfl)
    exact ne_ret1 Tryz.hT rfl (.tmp rfl) () (by rw [hf]) trivial fun W _ => NewBx.nil _ _
  have hA : (decide (areaUp (rg rs i) (rg rs i).length > 0) == (i == 0)) = true := by
    have h' := h
    rw [show ((i : Int) == 0) = (i == 0) from natInt_beq i 0] at h'
    simpa using h'
  clear h
  refine zI ?_
  refine zE ?_
  refine zA ?_
  refine zB ?_
  refine wl_pure Tryz.hT rfl rfl rfl ?_
  refine wl_pure Tryz.hT rfl rfl rfl ?_
  refine wl_pure Tryz.hT rfl rfl rfl ?_
  refine wl_nil ?_
  refine zE ?_
  refine zH ?_
  refine wc_loop (X := Nat) (fun k => [(0, slv (some ⟨b, off, none⟩) rs.length cap), (7, slv (some ⟨b, off, none⟩) rs.length cap), (8, .int .i64 (rs.length : Nat)), (9, .int .i64 (i : Nat)), (3, .int .i64 (i : Nat)), (4, slv q (rg rs i).length cap2), (20, slv (some ⟨b, off, none⟩) rs.length cap), (21, .int .i64 (rs.length : Nat)), (22, .int .i64 (k : Nat))]) (fun _ => [])
    (fun k => k ≤ rs.length ∧ ∀ j, j < k → placeK rs i j = true) (fun k => rs.length - k) 0 ⟨Nat.zero_le _, fun j hj => absurd hj (Nat.not_lt_zero _)⟩ ⟨rfl, rfl, rfl, rfl, rfl, rfl, rfl, rfl, rfl, trivial⟩ [] rfl ?_
  rintro k ⟨hk, hokk⟩
  refine zA ?_
  refine zB ?_
  refine wl_pure Tryz.hT rfl rfl rfl ?_
  refine wl_nil ?_
  refine zE ?_
  refine zA ?_
  refine wc_cond rfl (fun h => ?_) (fun h => ?_)
  rotate_left
  · have e : k = rs.length := by simp at h; omega
    subst e
    refine zJ ?_
    refine zK ?_
    refine zK ?_
    refine zL ?_
    refine zN ?_
    refine zE ?_
    refine zB ?_
    refine wl_pure Tryz.hT rfl rfl rfl ?_
    refine wl_pure Tryz.hT rfl rfl rfl ?_
    refine wl_nil ?_
    refine ne_loop (i + 1) ⟨hi, fun j hj => ?_⟩ (by omega) ⟨rfl, rfl, rfl, congrArg (fun z => some (Value.int .i64 z)) (wrap_id (x := (i : Int) + 1) (by omega) (by omega)), trivial⟩ [] rfl
    by_cases e : j = i
    · subst e
      unfold placeRing
      rw [hA, Bool.true_and]
      exact List.all_eq_true.2 fun m hm => hokk m (List.mem_range.1 hm)
    · exact hok j (by omega)
  have hk : k < rs.length := by simp at h; omega
  clear h
  obtain ⟨q2, cap3, hq3, hq4⟩ := hrow k hk
  have hlk := hl _ (List.mem_of_getElem? (rg_get hk))
  have next : placeK rs i k = true → ∀ j, j < k + 1 → placeK rs i j = true := fun h j hj => by
    by_cases e : j = k
    · subst e; exact h
    · exact hokk j (by omega)
  refine zI ?_
  refine zE ?_
  refine zA ?_
  refine zH ?_
  refine zA ?_
  refine zB ?_
  refine wl_pure Tryz.hT rfl rfl rfl ?_
  refine wl_indexAddr Tryz.hT rfl rfl rfl rfl rfl rfl rfl (by omega) (by omega) ?_
  refine wl_load rfl rfl rfl rfl (fun W hp => RowAt.load 0 Tryz.hT rfl ((fun W hp => hq3.hp hp) W hp) rfl) ?_
  refine wl_pure Tryz.hT rfl rfl rfl ?_
  refine wl_pure Tryz.hT rfl rfl rfl ?_
  refine wl_nil ?_
  refine zE ?_
  refine wc_seq ?_
  refine wc_cut (X := Unit) (fun _ => [(0, slv (some ⟨b, off, none⟩) rs.length cap), (7, slv (some ⟨b, off, none⟩) rs.length cap), (8, .int .i64 (rs.length : Nat)), (9, .int .i64 (i : Nat)), (3, .int .i64 (i : Nat)), (4, slv q (rg rs i).length cap2), (5, .int .i64 (k : Nat)), (6, slv q2 (rg rs k).length cap3), (20, slv (some ⟨b, off, none⟩) rs.length cap), (21, .int .i64 (rs.length : Nat)), (22, .int .i64 (k : Nat)), (33, .bool (k == i || i == 0))]) (fun _ => []) (fun _ => True) ?_ ?_
  · refine zB ?_
    refine wl_pure Tryz.hT rfl rfl rfl ?_
    refine wl_pure Tryz.hT rfl rfl rfl ?_
    refine wl_pure Tryz.hT rfl rfl rfl ?_
    refine wl_pure Tryz.hT rfl rfl rfl ?_
    refine wl_part 30 rfl (fun h30 => ?_) (fun h30 => ?_)
    · have e : (k == i || i == 0) = true := by
        have : (k == i) = true := by rw [← natInt_beq]; exact h30
        rw [this]; rfl
      refine wl_skip rfl rfl ?_
      refine wl_skip rfl rfl ?_
      refine wl_pure Tryz.hT rfl rfl rfl ?_
      refine wl_nil ?_
      exact ne_cut () trivial ⟨rfl, rfl, rfl, rfl, rfl, rfl, rfl, rfl, rfl, rfl, rfl, by rw [e]; rfl, trivial⟩ [] rfl
    · have e : (k == i || i == 0) = ((i : Int) == 0) := by
        have : (k == i) = false := by rw [← natInt_beq]; exact h30
        rw [this, Bool.false_or]; exact (natInt_beq i 0).symm
      refine wl_pure Tryz.hT rfl rfl rfl ?_
      refine wl_pure Tryz.hT rfl rfl rfl ?_
      refine wl_pure Tryz.hT rfl rfl rfl ?_
      refine wl_nil ?_
      exact ne_cut () trivial ⟨rfl, rfl, rfl, rfl, rfl, rfl, rfl, rfl, rfl, rfl, rfl, by rw [e]; rfl, trivial⟩ [] rfl
  intro _ _
  refine wc_cond rfl (fun h => ?_) (fun h => ?_)
  · refine zJ ?_
    refine zK ?_
    refine zL ?_
    refine zE ?_
    refine zB ?_
    refine wl_pure Tryz.hT rfl rfl rfl ?_
    refine wl_pure Tryz.hT rfl rfl rfl ?_
    refine wl_nil ?_
    exact ne_loop (k + 1) ⟨hk, next (by unfold placeK; rw [h]; rfl)⟩ (by omega) ⟨rfl, rfl, rfl, rfl, rfl, rfl, rfl, rfl, congrArg (fun z => some (Value.int .i64 z)) (wrap_id (x := (k : Int) + 1) (by omega) (by omega)), trivial⟩ [] rfl
  obtain ⟨b3, off3, rfl, hrow3⟩ := hq2.row hnei
  refine zI ?_
  refine zE ?_
  refine zA ?_
  refine zB ?_
  refine wl_pure Tryz.hT rfl rfl rfl ?_
  refine wl_pure Tryz.hT rfl rfl rfl ?_
  refine wl_indexAddr Tryz.hT rfl rfl rfl rfl rfl rfl rfl (by omega) (by omega) ?_
  refine wl_load rfl rfl rfl rfl (fun W hp => RowAt.load 0 Tryz.hT rfl ((fun W hp => (hrow3 0 hnei).hp hp) W hp) rfl) ?_
  refine wl_call1 rfl rfl rfl rfl rfl rfl (by kernel_rfl) (fun W _ => (corner_gives ..)) ?_
  refine wl_call1 rfl rfl rfl rfl rfl rfl (by kernel_rfl) (fun W hp => inside_gives W q2 cap3 (rg rs k) _ _ hlk (hq4.hp hp)) ?_
  refine wl_pure Tryz.hT rfl rfl rfl ?_
  refine wl_pure Tryz.hT rfl rfl rfl ?_
  refine wl_eqB Tryz.underlying4 rfl rfl rfl rfl rfl rfl ?_
  refine wl_nil ?_
  refine zE ?_
  refine wc_cond rfl (fun h2 => ?_) (fun h2 => ?_)
  · refine zA ?_
    refine zB ?_
    refine wl_pure Tryz.hT rfl rfl rfl ?_
    refine wl_nil ?_
    refine zE ?_
    refine zO ?_
    refine zQ ?_
    refine zP ?_
    refine zP ?_
    refine zQ ?_
    refine zQ ?_
    refine zP ?_
    refine zP ?_
    refine zQ ?_
    refine zP ?_
    have hf : plc rs = false := all_range_false hi (by
      unfold placeRing
      rw [all_range_false hk (by
        unfold placeK
        rw [h, Bool.false_or]
        have h' := h2
        rw [show ((k : Int) == 0) = (k == 0) from natInt_beq k 0] at h'
        simpa using h'), Bool.and_false])
    exact ne_ret1 Tryz.hT rfl (.tmp rfl) () (by rw [hf]) trivial fun W _ => NewBx.nil _ _
  · refine zI ?_
    refine zN ?_
    refine zE ?_
    refine zB ?_
    refine wl_pure Tryz.hT rfl rfl rfl ?_
    refine wl_pure Tryz.hT rfl rfl rfl ?_
    refine wl_nil ?_
    refine ne_loop (k + 1) ⟨hk, next ?_⟩ (by omega) ⟨rfl, rfl, rfl, rfl, rfl, rfl, rfl, rfl, congrArg (fun z => some (Value.int .i64 z)) (wrap_id (x := (k : Int) + 1) (by omega) (by omega)), trivial⟩ [] rfl
    unfold placeK
    rw [h, Bool.false_or]
    have h' := h2
    rw [show ((k : Int) == 0) = (k == 0) from natInt_beq k 0] at h'
    simpa using h'
end Go.Proofs.YtnpfkmbcejgnjaaGreatDoor
