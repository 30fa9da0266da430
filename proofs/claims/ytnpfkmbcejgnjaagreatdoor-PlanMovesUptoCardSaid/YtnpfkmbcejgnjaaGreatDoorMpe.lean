/-
  Lemmas that the theorem planMoves_upto_card needs (part 5 of 7).
-/
import Derived.Test.YtnpfkmbcejgnjaaGreatDoorMpd
import Derived.Shelf.Strings.Builder1
import Derived.Shelf.Strings.OnBuilder
import Derived.Shelf.Strings.Cut
import Derived.Shelf.Strings.Split
import Derived.Shelf.Slices.Delete
import Derived.Lib.Builder
import Derived.Lib.AppendStr
import Derived.Lib.UnsafeStr
import Derived.Lib.Join
import Derived.Lib.Split
import Derived.Lib.CountLaws
namespace Go.Proofs.YtnpfkmbcejgnjaaGreatDoor
open Go Go.RowKit Go.Am
set_option maxRecDepth 10000
-- BOXES 2
def plsR (rs : List (List Sd)) (r s : Nat) : Bool := (s == r) || (insR (rg rs s) (sd (rg rs r) 0).x (sd (rg rs r) 0).y (rg rs s).length == (s == 0))
def plrR (rs : List (List Sd)) (r : Nat) : Bool := (r == 0) || (!decide (twR (rg rs r) (rg rs r).length ≥ 0) && (List.range rs.length).all (plsR rs r))
def plcR (rs : List (List Sd)) : Bool := !decide (twR (rg rs 0) (rg rs 0).length ≤ 0) && (List.range rs.length).all (plrR rs)
set_option maxHeartbeats 8000000 in
theorem placedR_gives (W : World) (p : Option Addr) (cap : Nat) (rs : List (List Sd)) (hn : rs.length < 4611686018427387904) (hl : ∀ l ∈ rs, l.length < 4611686018427387904) (hne : ∀ l ∈ rs, l ≠ []) (h0 : 0 < rs.length) (hR : RingsP W p rs) :
    CallsR Tryz.prog 67 #[slv p rs.length cap] W (fun _ : Unit => .bool (plcR rs)) (fun _ => True) (fun _ => []) := by
  obtain ⟨b, off, rfl, hrow⟩ := hR.row h0
  obtain ⟨q0, cap0, hq1, hq2⟩ := hrow 0 h0
  refine calls_enter (args := [slv (some ⟨b, off, none⟩) rs.length cap]) Tryz.func67 rfl rfl rfl ?_
  refine zA ?_
  refine zB ?_
  refine wl_pure Tryz.hT rfl rfl rfl ?_
  refine wl_nil ?_
  refine zE ?_
  iterate 2 refine zA ?_
  refine zB ?_
  refine wl_pure Tryz.hT rfl rfl rfl ?_
  refine wl_indexAddr Tryz.hT rfl rfl rfl rfl rfl rfl rfl (by omega) (by omega) ?_
  refine wl_load rfl rfl rfl rfl (fun W hp => RowAt.load 0 Tryz.hT rfl ((fun W hp => hq1.hp hp) W hp) rfl) ?_
  refine wl_call1 rfl rfl rfl rfl rfl rfl (by kernel_rfl) (fun W hp => twice_gives W q0 cap0 (rg rs 0) (hl _ (List.mem_of_getElem? (rg_get h0))) (hq2.hp hp)) ?_
  refine wl_pure Tryz.hT rfl rfl rfl ?_
  refine wl_nil ?_
  refine zE ?_
  refine wc_cond rfl (fun h => ?_) (fun h => ?_)
  · refine zA ?_
    refine zB ?_
    refine wl_pure Tryz.hT rfl rfl rfl ?_
    refine wl_nil ?_
    refine zE ?_
    refine zO ?_
    refine zP ?_
    have hf : plcR rs = false := by unfold plcR; rw [show decide (twR (rg rs 0) (rg rs 0).length ≤ 0) = true from h]; rfl
    exact ne_ret1 Tryz.hT rfl (.tmp rfl) () (by rw [hf]) trivial fun W _ => NewBx.nil _ _
  have hA : decide (twR (rg rs 0) (rg rs 0).length ≤ 0) = false := h
  clear h
  refine zI ?_
  refine zE ?_
  iterate 2 refine zA ?_
  refine zB ?_
  refine wl_pure Tryz.hT rfl rfl rfl ?_
  refine wl_nil ?_
  refine zE ?_
  refine zH ?_
  refine wc_loop (X := Nat) (fun r => [(0, slv (some ⟨b, off, none⟩) rs.length cap), (3, .int .i64 (r : Nat))]) (fun _ => []) (fun r => 1 ≤ r ∧ r ≤ rs.length ∧ ∀ j, j < r → plrR rs j = true) (fun r => rs.length - r) 1
    ⟨Nat.le_refl _, h0, fun j hj => by rw [show j = 0 by omega]; rfl⟩ ⟨rfl, rfl, trivial⟩ [] rfl ?_
  rintro r ⟨hr1, hr, hok⟩
  iterate 2 refine zA ?_
  refine zB ?_
  iterate 4 refine wl_pure Tryz.hT rfl rfl rfl ?_
  refine wl_nil ?_
  refine zE ?_
  refine wc_cond rfl (fun h => ?_) (fun h => ?_)
  rotate_left
  · have e : r = rs.length := by simp at h; omega
    subst e
    refine zJ ?_
    iterate 2 refine zK ?_
    refine zL ?_
    refine zE ?_
    refine zA ?_
    refine zB ?_
    refine wl_pure Tryz.hT rfl rfl rfl ?_
    refine wl_nil ?_
    refine zE ?_
    refine zO ?_
    have ht : plcR rs = true := by unfold plcR; rw [hA, List.all_eq_true.2 fun j hj => hok j (List.mem_range.1 hj)]; rfl
    exact ne_ret1 Tryz.hT rfl (.tmp rfl) () (by rw [ht]) trivial fun W _ => NewBx.nil _ _
  have hr : r < rs.length := by simp at h; omega
  clear h
  obtain ⟨q, cap2, hq3, hq4⟩ := hrow r hr
  have hlr := hl _ (List.mem_of_getElem? (rg_get hr))
  have hner : 0 < (rg rs r).length := List.length_pos_iff.2 (hne _ (List.mem_of_getElem? (rg_get hr)))
  have hr0 : (r == 0) = false := beq_eq_false_iff_ne.2 (by omega)
  refine zI ?_
  refine zE ?_
  refine zA ?_
  refine zH ?_
  iterate 2 refine zA ?_
  refine zB ?_
  iterate 2 refine wl_pure Tryz.hT rfl rfl rfl ?_
  refine wl_indexAddr Tryz.hT rfl rfl rfl rfl rfl rfl rfl (by omega) (by omega) ?_
  refine wl_load rfl rfl rfl rfl (fun W hp => RowAt.load 0 Tryz.hT rfl ((fun W hp => hq3.hp hp) W hp) rfl) ?_
  refine wl_call1 rfl rfl rfl rfl rfl rfl (by kernel_rfl) (fun W hp => twice_gives W q cap2 (rg rs r) hlr (hq4.hp hp)) ?_
  refine wl_pure Tryz.hT rfl rfl rfl ?_
  refine wl_nil ?_
  refine zE ?_
  refine wc_cond rfl (fun h => ?_) (fun h => ?_)
  · refine zA ?_
    refine zB ?_
    refine wl_pure Tryz.hT rfl rfl rfl ?_
    refine wl_nil ?_
    refine zE ?_
    refine zO ?_
    refine zP ?_
    refine zQ ?_
    iterate 2 refine zP ?_
    refine zQ ?_
    refine zP ?_
    have hf : plcR rs = false := by unfold plcR; rw [all_range_false hr (by unfold plrR; rw [hr0, show decide (twR (rg rs r) (rg rs r).length ≥ 0) = true from h]; rfl), Bool.and_false]
    exact ne_ret1 Tryz.hT rfl (.tmp rfl) () (by rw [hf]) trivial fun W _ => NewBx.nil _ _
  have hB : decide (twR (rg rs r) (rg rs r).length ≥ 0) = false := h
  clear h
  refine zI ?_
  refine zE ?_
  refine zA ?_
  refine zB ?_
  refine wl_pure Tryz.hT rfl rfl rfl ?_
  refine wl_nil ?_
  refine zE ?_
  refine zH ?_
  refine wc_loop (X := Nat) (fun s => [(0, slv (some ⟨b, off, none⟩) rs.length cap), (3, .int .i64 (r : Nat)), (4, .int .i64 (s : Nat))]) (fun _ => []) (fun s => s ≤ rs.length ∧ ∀ j, j < s → plsR rs r j = true) (fun s => rs.length - s) 0
    ⟨Nat.zero_le _, fun j hj => absurd hj (Nat.not_lt_zero _)⟩ ⟨rfl, rfl, rfl, trivial⟩ [] rfl ?_
  rintro s ⟨hs, hoks⟩
  iterate 2 refine zA ?_
  refine zB ?_
  iterate 4 refine wl_pure Tryz.hT rfl rfl rfl ?_
  refine wl_nil ?_
  refine zE ?_
  refine wc_cond rfl (fun h => ?_) (fun h => ?_)
  rotate_left
  · have e : s = rs.length := by simp at h; omega
    subst e
    refine zJ ?_
    iterate 2 refine zK ?_
    refine zL ?_
    refine zN ?_
    refine zE ?_
    refine zB ?_
    iterate 3 refine wl_pure Tryz.hT rfl rfl rfl ?_
    refine wl_nil ?_
    refine ne_loop (r + 1) ⟨by omega, hr, fun j hj => ?_⟩ (by omega) ⟨rfl, congrArg (fun z => some (Value.int .i64 z)) (wrap_id (x := (r : Int) + 1) (by omega) (by omega)), trivial⟩ [] rfl
    by_cases e : j = r
    · subst e
      unfold plrR
      rw [hB, List.all_eq_true.2 fun m hm => hoks m (List.mem_range.1 hm), hr0]; rfl
    · exact hok j (by omega)
  have hs : s < rs.length := by simp at h; omega
  clear h
  obtain ⟨q', cap3, hq5, hq6⟩ := hrow s hs
  have hls := hl _ (List.mem_of_getElem? (rg_get hs))
  have next : plsR rs r s = true → ∀ j, j < s + 1 → plsR rs r j = true := fun h j hj => by
    by_cases e : j = s
    · subst e; exact h
    · exact hoks j (by omega)
  obtain ⟨b3, off3, rfl, hrow3⟩ := hq4.row hner
  refine zI ?_
  refine zE ?_
  refine zA ?_
  refine zH ?_
  refine zA ?_
  refine zT Tryz.mixed (by kernel_rfl) ?_
  iterate 4 refine wq_pure Tryz.hT rfl rfl rfl ?_
  refine wq_part 31 rfl (fun h31 => ?_) (fun h31 => ?_)
  · refine wq_pure Tryz.hT rfl rfl rfl ?_
    refine wq_pure Tryz.hT rfl rfl rfl ?_
    refine wq_indexAddr Tryz.hT rfl rfl rfl rfl rfl rfl rfl (by omega) (by omega) ?_
    refine wq_load rfl rfl rfl rfl (fun W hp => RowAt.load 0 Tryz.hT rfl ((fun W hp => hq5.hp hp) W hp) rfl) ?_
    iterate 2 refine wq_pure Tryz.hT rfl rfl rfl ?_
    refine wq_indexAddr Tryz.hT rfl rfl rfl rfl rfl rfl rfl (by omega) (by omega) ?_
    refine wq_load rfl rfl rfl rfl (fun W hp => RowAt.load 0 Tryz.hT rfl ((fun W hp => hq3.hp hp) W hp) rfl) ?_
    refine wq_indexAddr Tryz.hT rfl rfl rfl rfl rfl rfl rfl (by omega) (by omega) ?_
    refine wq_pure Tryz.hT rfl rfl rfl ?_
    refine wq_load rfl rfl rfl rfl (fun W hp => RowAt.load 0 Tryz.hT rfl ((fun W hp => (hrow3 0 hner).hp hp) W hp) rfl) ?_
    iterate 2 refine wq_pure Tryz.hT rfl rfl rfl ?_
    refine wq_indexAddr Tryz.hT rfl rfl rfl rfl rfl rfl rfl (by omega) (by omega) ?_
    refine wq_load rfl rfl rfl rfl (fun W hp => RowAt.load 0 Tryz.hT rfl ((fun W hp => hq3.hp hp) W hp) rfl) ?_
    refine wq_indexAddr Tryz.hT rfl rfl rfl rfl rfl rfl rfl (by omega) (by omega) ?_
    refine wq_pure Tryz.hT rfl rfl rfl ?_
    refine wq_load rfl rfl rfl rfl (fun W hp => RowAt.load 1 Tryz.hT rfl ((fun W hp => (hrow3 0 hner).hp hp) W hp) rfl) ?_
    refine wq_call1 rfl rfl rfl rfl rfl rfl (by kernel_rfl) (fun W hp => insideR_gives W q' cap3 (rg rs s) _ _ hls (hq6.hp hp)) ?_
    iterate 2 refine wq_pure Tryz.hT rfl rfl rfl ?_
    refine wq_eqB Tryz.underlying4 rfl rfl rfl rfl rfl rfl ?_
    refine wq_pure Tryz.hT rfl rfl rfl ?_
    refine wq_nil ?_
    refine wl_nil ?_
    have e : (s == r) = false := by have h' : ((s : Int) != (r : Int)) = true := h31; rw [bne_iff_ne] at h'; rw [beq_eq_false_iff_ne]; omega
    refine zE ?_
    refine wc_cond rfl (fun h => ?_) (fun h => ?_)
    · refine zA ?_
      refine zB ?_
      refine wl_pure Tryz.hT rfl rfl rfl ?_
      refine wl_nil ?_
      refine zE ?_
      refine zO ?_
      refine zQ ?_
      iterate 2 refine zP ?_
      iterate 2 refine zQ ?_
      iterate 2 refine zP ?_
      refine zQ ?_
      refine zP ?_
      have h' : (insR (rg rs s) (sd (rg rs r) 0).x (sd (rg rs r) 0).y (rg rs s).length == (s == 0)) = false := by
        rw [← natInt_beq s 0]
        have h2 : (!(insR (rg rs s) (sd (rg rs r) 0).x (sd (rg rs r) 0).y (rg rs s).length == ((s : Int) == 0))) = true := h
        simpa using h2
      have hf : plcR rs = false := by unfold plcR; rw [all_range_false hr (by unfold plrR; rw [hr0, all_range_false hs (by unfold plsR; rw [e, h']; rfl), Bool.and_false]; rfl), Bool.and_false]
      exact ne_ret1 Tryz.hT rfl (.tmp rfl) () (by rw [hf]) trivial fun W _ => NewBx.nil _ _
    · have h' : (insR (rg rs s) (sd (rg rs r) 0).x (sd (rg rs r) 0).y (rg rs s).length == (s == 0)) = true := by
        rw [← natInt_beq s 0]
        have h2 : (!(insR (rg rs s) (sd (rg rs r) 0).x (sd (rg rs r) 0).y (rg rs s).length == ((s : Int) == 0))) = false := h
        simpa using h2
      refine zI ?_
      refine zN ?_
      refine zE ?_
      refine zB ?_
      iterate 3 refine wl_pure Tryz.hT rfl rfl rfl ?_
      refine wl_nil ?_
      exact ne_loop (s + 1) ⟨hs, next (by unfold plsR; rw [h', Bool.or_true])⟩ (by omega) ⟨rfl, rfl, congrArg (fun z => some (Value.int .i64 z)) (wrap_id (x := (s : Int) + 1) (by omega) (by omega)), trivial⟩ [] rfl
  · refine wq_skip rfl rfl ?_
    iterate 21 refine wq_skip rfl rfl ?_
    refine wq_pure Tryz.hT rfl rfl rfl ?_
    refine wq_nil ?_
    refine wl_nil ?_
    have e : (s == r) = true := by have h' : ((s : Int) != (r : Int)) = false := h31; rw [bne_eq_false_iff_eq] at h'; rw [beq_iff_eq]; omega
    refine zE ?_
    refine zS rfl ?_
    refine zI ?_
    refine zN ?_
    refine zE ?_
    refine zB ?_
    iterate 3 refine wl_pure Tryz.hT rfl rfl rfl ?_
    refine wl_nil ?_
    exact ne_loop (s + 1) ⟨hs, next (by unfold plsR; rw [e]; rfl)⟩ (by omega) ⟨rfl, rfl, congrArg (fun z => some (Value.int .i64 z)) (wrap_id (x := (s : Int) + 1) (by omega) (by omega)), trivial⟩ [] rfl
def refS (l : List Sd) (k : Nat) : Bool := !(decide (trnR l k < 0) && ((sd l (prv l.length k)).gable || (sd l k).gable || ((sd l (prv l.length k)).plate != (sd l k).plate)))
def jndR (rs : List (List Sd)) : Bool := rs.all (fun l => (List.range l.length).all (refS l)) && someRs rs rs.length
set_option maxHeartbeats 8000000 in
theorem reflex_gives (W : World) (p : Option Addr) (cap : Nat) (rs : List (List Sd)) (hn : rs.length < 4611686018427387904) (hl : ∀ l ∈ rs, l.length < 4611686018427387904) (hR : RingsP W p rs) :
    CallsR Tryz.prog 68 #[slv p rs.length cap] W (fun _ : Unit => .bool (jndR rs)) (fun _ => True) (fun _ => []) := by
  refine calls_enter (args := [slv p rs.length cap]) Tryz.func68 rfl rfl rfl ?_
  refine zA ?_
  refine zB ?_
  refine wl_pure Tryz.hT rfl rfl rfl ?_
  refine wl_nil ?_
  refine zE ?_
  refine zA ?_
  refine zB ?_
  refine wl_pure Tryz.hT rfl rfl rfl ?_
  refine wl_nil ?_
  refine zE ?_
  iterate 2 refine zA ?_
  refine zB ?_
  refine wl_pure Tryz.hT rfl rfl rfl ?_
  refine wl_nil ?_
  refine zE ?_
  refine zH ?_
  refine wc_loop (X := Nat) (fun r => [(0, slv p rs.length cap), (3, .bool (someRs rs r)), (4, .int .i64 (r : Nat))]) (fun _ => []) (fun r => r ≤ rs.length ∧ ∀ j, j < r → (List.range (rg rs j).length).all (refS (rg rs j)) = true) (fun r => rs.length - r) 0
    ⟨Nat.zero_le _, fun j hj => absurd hj (Nat.not_lt_zero _)⟩ ⟨rfl, rfl, rfl, trivial⟩ [] rfl ?_
  rintro r ⟨hr, hok⟩
  iterate 2 refine zA ?_
  refine zB ?_
  iterate 4 refine wl_pure Tryz.hT rfl rfl rfl ?_
  refine wl_nil ?_
  refine zE ?_
  refine wc_cond rfl (fun h => ?_) (fun h => ?_)
  rotate_left
  · have e : r = rs.length := by simp at h; omega
    subst e
    refine zJ ?_
    iterate 2 refine zK ?_
    refine zL ?_
    refine zE ?_
    refine zA ?_
    refine zB ?_
    iterate 2 refine wl_pure Tryz.hT rfl rfl rfl ?_
    refine wl_nil ?_
    refine zE ?_
    refine zO ?_
    have ht : jndR rs = someRs rs rs.length := by
      unfold jndR
      rw [List.all_eq_true.2 fun l hl => ?_, Bool.true_and]
      obtain ⟨j, hj, e⟩ := List.getElem_of_mem hl
      have := hok j hj
      rw [show rg rs j = l by simp [rg, hj, e]] at this
      exact this
    exact ne_ret1 Tryz.hT rfl (.tmp rfl) () (by rw [ht]) trivial fun W _ => NewBx.nil _ _
  have hr : r < rs.length := by simp at h; omega
  clear h
  obtain ⟨b, off, rfl, hrow⟩ := hR.row hr
  obtain ⟨q, cap2, hq1, hq2⟩ := hrow r hr
  have hlr := hl _ (List.mem_of_getElem? (rg_get hr))
  refine zI ?_
  refine zE ?_
  refine zA ?_
  refine zH ?_
  refine zA ?_
  refine zB ?_
  iterate 2 refine wl_pure Tryz.hT rfl rfl rfl ?_
  refine wl_indexAddr Tryz.hT rfl rfl rfl rfl rfl rfl rfl (by omega) (by omega) ?_
  refine wl_load rfl rfl rfl rfl (fun W hp => RowAt.load 0 Tryz.hT rfl ((fun W hp => hq1.hp hp) W hp) rfl) ?_
  refine wl_pure Tryz.hT rfl rfl rfl ?_
  refine wl_nil ?_
  refine zE ?_
  refine zA ?_
  refine zB ?_
  refine wl_pure Tryz.hT rfl rfl rfl ?_
  refine wl_nil ?_
  refine zE ?_
  refine zH ?_
  refine wc_loop (X := Nat) (fun i => [(0, slv (some ⟨b, off, none⟩) rs.length cap), (3, .bool (someUp (rg rs r) (someRs rs r) i)), (4, .int .i64 (r : Nat)), (5, slv q (rg rs r).length cap2), (6, .int .i64 (i : Nat))]) (fun _ => []) (fun i => i ≤ (rg rs r).length ∧ ∀ j, j < i → refS (rg rs r) j = true) (fun i => (rg rs r).length - i) 0
    ⟨Nat.zero_le _, fun j hj => absurd hj (Nat.not_lt_zero _)⟩ ⟨rfl, rfl, rfl, rfl, rfl, trivial⟩ [] rfl ?_
  rintro i ⟨hi, hoki⟩
  iterate 2 refine zA ?_
  refine zB ?_
  iterate 4 refine wl_pure Tryz.hT rfl rfl rfl ?_
  refine wl_nil ?_
  refine zE ?_
  refine wc_cond rfl (fun h => ?_) (fun h => ?_)
  rotate_left
  · have e : i = (rg rs r).length := by simp at h; omega
    subst e
    refine zJ ?_
    iterate 2 refine zK ?_
    refine zL ?_
    refine zN ?_
    refine zE ?_
    refine zB ?_
    iterate 3 refine wl_pure Tryz.hT rfl rfl rfl ?_
    refine wl_nil ?_
    refine ne_loop (r + 1) ⟨hr, fun j hj => ?_⟩ (by omega) ⟨rfl, rfl, congrArg (fun z => some (Value.int .i64 z)) (wrap_id (x := (r : Int) + 1) (by omega) (by omega)), trivial⟩ [] rfl
    by_cases e : j = r
    · subst e; exact List.all_eq_true.2 fun m hm => hoki m (List.mem_range.1 hm)
    · exact hok j (by omega)
  have hi : i < (rg rs r).length := by simp at h; omega
  clear h
  have hi2 := prv_lt hi
  obtain ⟨b3, off3, rfl, hrow3⟩ := hq2.row hi
  have bad : refS (rg rs r) i = false → jndR rs = false := fun h => by
    unfold jndR
    have : rs.all (fun l => (List.range l.length).all (refS l)) = false := Bool.eq_false_iff.2 fun e => by
      have := List.all_eq_true.1 e _ (List.mem_of_getElem? (rg_get hr))
      rw [all_range_false hi h] at this; cases this
    rw [this]; rfl
  have good : refS (rg rs r) i = true → ∀ j, j < i + 1 → refS (rg rs r) j = true := fun h j hj => by
    by_cases e : j = i
    · subst e; exact h
    · exact hoki j (by omega)
  refine zI ?_
  refine zE ?_
  refine wc_seq ?_
  refine wc_block ?_
  repeat refine wc_seq ?_
  refine wc_lateS (X := Nat × Nat) (fun y => [(0, slv (some ⟨b, off, none⟩) rs.length cap), (3, .bool (someUp (rg rs r) (someRs rs r) i)), (4, .int .i64 (r : Nat)), (5, slv (some ⟨b3, off3, none⟩) (rg rs r).length cap2), (6, .int .i64 (i : Nat)), (7, .pointer (some ⟨y.1, 0, none⟩)), (8, .pointer (some ⟨y.2, 0, none⟩))])
    (fun y => [⟨y.1, 42, (sd (rg rs r) (prv (rg rs r).length i)).cells, true, none⟩, ⟨y.2, 42, (sd (rg rs r) i).cells, true, none⟩]) 4 Tryz.mixed (by kernel_rfl) ?_ ?_
  · refine wq_pure Tryz.hT rfl rfl rfl ?_
    iterate 5 refine wq_pure Tryz.hT rfl rfl rfl ?_
    refine wq_upd 30 (.int .i64 ((i + (rg rs r).length - 1 : Nat) : Int)) rfl (congrArg (Value.int .i64) (show w64 (w64 ((i : Nat) + ((rg rs r).length : Nat)) - 1) = ((i + (rg rs r).length - 1 : Nat) : Int) by rw [w64_id (x := (i : Nat) + ((rg rs r).length : Nat)) (by omega) (by omega), w64_id (by omega) (by omega)]; omega)) ?_
    iterate 2 refine wq_pure Tryz.hT rfl rfl rfl ?_
    refine wq_rem rfl rfl rfl rfl rfl (by omega) ?_
    refine wq_upd 33 (.int .i64 (prv (rg rs r).length i : Nat)) rfl (congrArg (Value.int .i64) (show Int.tmod ((i + (rg rs r).length - 1 : Nat) : Int) ((rg rs r).length : Nat) = (prv (rg rs r).length i : Nat) from (Int.ofNat_tmod _ _).symm)) ?_
    refine wq_indexAddr Tryz.hT rfl rfl rfl rfl rfl rfl rfl (by omega) (by omega) ?_
    refine wq_load rfl rfl rfl rfl (fun W hp => RowAt.load 0 Tryz.hT rfl ((fun W hp => (hrow3 _ hi2).hp hp) W hp) rfl) ?_
    iterate 2 refine wq_pure Tryz.hT rfl rfl rfl ?_
    refine wq_indexAddr Tryz.hT rfl rfl rfl rfl rfl rfl rfl (by omega) (by omega) ?_
    refine wq_load rfl rfl rfl rfl (fun W hp => RowAt.load 0 Tryz.hT rfl ((fun W hp => (hrow3 i hi).hp hp) W hp) rfl) ?_
    refine wq_wt ?_
    refine wt_step rfl rfl (by ((repeat (first | refine Weak.same ?_ | refine Weak.off rfl ?_)); exact trivial)) ?_
    refine RS.cons ?_ (RS.cons ?_ (RS.nil))
    · refine wl_allocZ Tryz.hZ rfl rfl rfl rfl ?_; intro b7
      refine wl_nil ?_
      refine ne_wt ?_
      refine wt_step rfl rfl (by ((repeat (first | refine Weak.same ?_ | refine Weak.off rfl ?_)); exact trivial)) ?_
      refine RS.cons ?_ (RS.nil)
      refine wl_allocZ Tryz.hZ rfl rfl rfl rfl ?_; intro b8
      refine wl_nil ?_
      refine ne_wt ?_
      refine wt_step rfl rfl (by ((repeat (first | refine Weak.same ?_ | refine Weak.off rfl ?_)); exact trivial)) ?_
      refine RS.cons ?_ (RS.nil)
      refine wl_storeBx 0 Tryz.hT rfl rfl rfl rfl rfl rfl rfl rfl rfl rfl rfl ?_
      refine wl_nil ?_
      refine ne_wt ?_
      refine wt_step rfl rfl (by ((repeat (first | refine Weak.same ?_ | refine Weak.off rfl ?_)); exact trivial)) ?_
      refine RS.cons ?_ (RS.nil)
      refine wl_storeBx 1 Tryz.hT rfl rfl rfl rfl rfl rfl rfl rfl rfl rfl rfl ?_
      refine wl_nil ?_
      refine ne_wt ?_
      (first | refine wt_done rfl (by ((repeat (first | refine Weak.same ?_ | refine Weak.off rfl ?_)); exact trivial)) ?_ | refine wt_doneF rfl (by kernel_rfl) ?_); (first | exact ne_late (b7, b8) ⟨rfl, rfl, rfl, rfl, rfl, rfl, rfl, trivial⟩ [0, 1] (by decide) rfl | exact ne_late (b7, b8) ⟨rfl, rfl, rfl, rfl, rfl, rfl, rfl, trivial⟩ [1, 0] (by decide) rfl)
    · refine wl_allocZ Tryz.hZ rfl rfl rfl rfl ?_; intro b8
      refine wl_nil ?_
      refine ne_wt ?_
      refine wt_step rfl rfl (by ((repeat (first | refine Weak.same ?_ | refine Weak.off rfl ?_)); exact trivial)) ?_
      refine RS.cons ?_ (RS.nil)
      refine wl_allocZ Tryz.hZ rfl rfl rfl rfl ?_; intro b7
      refine wl_nil ?_
      refine ne_wt ?_
      refine wt_step rfl rfl (by ((repeat (first | refine Weak.same ?_ | refine Weak.off rfl ?_)); exact trivial)) ?_
      refine RS.cons ?_ (RS.nil)
      refine wl_storeBx 1 Tryz.hT rfl rfl rfl rfl rfl rfl rfl rfl rfl rfl rfl ?_
      refine wl_nil ?_
      refine ne_wt ?_
      refine wt_step rfl rfl (by ((repeat (first | refine Weak.same ?_ | refine Weak.off rfl ?_)); exact trivial)) ?_
      refine RS.cons ?_ (RS.nil)
      refine wl_storeBx 0 Tryz.hT rfl rfl rfl rfl rfl rfl rfl rfl rfl rfl rfl ?_
      refine wl_nil ?_
      refine ne_wt ?_
      (first | refine wt_done rfl (by ((repeat (first | refine Weak.same ?_ | refine Weak.off rfl ?_)); exact trivial)) ?_ | refine wt_doneF rfl (by kernel_rfl) ?_); (first | exact ne_late (b7, b8) ⟨rfl, rfl, rfl, rfl, rfl, rfl, rfl, trivial⟩ [0, 1] (by decide) rfl | exact ne_late (b7, b8) ⟨rfl, rfl, rfl, rfl, rfl, rfl, rfl, trivial⟩ [1, 0] (by decide) rfl)
  rintro ⟨b7, b8⟩
  obtain ⟨C1, c1⟩ : ∃ b, decide (trnR (rg rs r) i < 0) = b := ⟨_, rfl⟩
  obtain ⟨C4, c4⟩ : ∃ b, ((sd (rg rs r) (prv (rg rs r).length i)).plate != (sd (rg rs r) i).plate) = b := ⟨_, rfl⟩
  have hC : refS (rg rs r) i = !(C1 && ((sd (rg rs r) (prv (rg rs r).length i)).gable || (sd (rg rs r) i).gable || C4)) := by unfold refS; rw [c1, c4]
  refine zE ?_
  iterate 2 refine zA ?_
  refine zB ?_
  iterate 2 refine wl_pure Tryz.hT rfl rfl rfl ?_
  refine wl_call1 rfl rfl rfl rfl rfl rfl (by kernel_rfl) (fun W hp => turn_gives W _ cap2 (rg rs r) i hlr (hq2.hp hp) hi) ?_
  iterate 2 refine wl_pure Tryz.hT rfl rfl rfl ?_
  refine wl_part 44 rfl (fun h44 => ?_) (fun h44 => ?_)
  · refine wl_pure Tryz.hT rfl rfl rfl ?_
    refine wl_loadBx 0 Tryz.hT rfl rfl rfl rfl rfl rfl rfl rfl ?_
    refine wl_pure Tryz.hT rfl rfl rfl ?_
    refine wl_part 47 rfl (fun h47 => ?_) (fun h47 => ?_)
    · refine wl_skip rfl rfl ?_
      refine wl_skip rfl rfl ?_
      iterate 2 refine wl_pure Tryz.hT rfl rfl rfl ?_
      iterate 5 refine wl_skip rfl rfl ?_
      iterate 2 refine wl_pure Tryz.hT rfl rfl rfl ?_
      refine wl_nil ?_
      have e : refS (rg rs r) i = false := by
        rw [hC, show C1 = true from c1.symm.trans h44]
        first
        | (rw [show (sd (rg rs r) (prv (rg rs r).length i)).gable = true from h47]; rfl)
        | (rw [show (sd (rg rs r) i).gable = true from h51]; cases (sd (rg rs r) (prv (rg rs r).length i)).gable <;> rfl)
      refine zE ?_
      refine zR rfl ?_
      refine zA ?_
      refine zB ?_
      refine wl_pure Tryz.hT rfl rfl rfl ?_
      refine wl_nil ?_
      refine zE ?_
      refine zO ?_
      refine zP ?_
      refine zQ ?_
      iterate 2 refine zP ?_
      iterate 2 refine zQ ?_
      iterate 2 refine zP ?_
      refine zQ ?_
      refine zP ?_
      exact ne_ret1 Tryz.hT rfl (.tmp rfl) () (by rw [bad e]) trivial fun W _ => NewBx.nil _ _
    · refine wl_pure Tryz.hT rfl rfl rfl ?_
      refine wl_loadBx 1 Tryz.hT rfl rfl rfl rfl rfl rfl rfl rfl ?_
      iterate 2 refine wl_pure Tryz.hT rfl rfl rfl ?_
      refine wl_part 51 rfl (fun h51 => ?_) (fun h51 => ?_)
      · refine wl_skip rfl rfl ?_
        iterate 4 refine wl_skip rfl rfl ?_
        iterate 2 refine wl_pure Tryz.hT rfl rfl rfl ?_
        refine wl_nil ?_
        have e : refS (rg rs r) i = false := by
          rw [hC, show C1 = true from c1.symm.trans h44]
          first
          | (rw [show (sd (rg rs r) (prv (rg rs r).length i)).gable = true from h47]; rfl)
          | (rw [show (sd (rg rs r) i).gable = true from h51]; cases (sd (rg rs r) (prv (rg rs r).length i)).gable <;> rfl)
        refine zE ?_
        refine zR rfl ?_
        refine zA ?_
        refine zB ?_
        refine wl_pure Tryz.hT rfl rfl rfl ?_
        refine wl_nil ?_
        refine zE ?_
        refine zO ?_
        refine zP ?_
        refine zQ ?_
        iterate 2 refine zP ?_
        iterate 2 refine zQ ?_
        iterate 2 refine zP ?_
        refine zQ ?_
        refine zP ?_
        exact ne_ret1 Tryz.hT rfl (.tmp rfl) () (by rw [bad e]) trivial fun W _ => NewBx.nil _ _
      · refine wl_pure Tryz.hT rfl rfl rfl ?_
        refine wl_loadBx 0 Tryz.hT rfl rfl rfl rfl rfl rfl rfl rfl ?_
        refine wl_pure Tryz.hT rfl rfl rfl ?_
        refine wl_loadBx 1 Tryz.hT rfl rfl rfl rfl rfl rfl rfl rfl ?_
        iterate 3 refine wl_pure Tryz.hT rfl rfl rfl ?_
        refine wl_nil ?_
        refine zE ?_
        refine wc_cond rfl (fun hx => ?_) (fun hx => ?_)
        · have e : refS (rg rs r) i = false := by
            rw [hC, show C1 = true from c1.symm.trans h44, show C4 = true from c4.symm.trans hx]
            cases (sd (rg rs r) (prv (rg rs r).length i)).gable <;> cases (sd (rg rs r) i).gable <;> rfl
          refine zA ?_
          refine zB ?_
          refine wl_pure Tryz.hT rfl rfl rfl ?_
          refine wl_nil ?_
          refine zE ?_
          refine zO ?_
          refine zP ?_
          refine zQ ?_
          iterate 2 refine zP ?_
          iterate 2 refine zQ ?_
          iterate 2 refine zP ?_
          refine zQ ?_
          refine zP ?_
          exact ne_ret1 Tryz.hT rfl (.tmp rfl) () (by rw [bad e]) trivial fun W _ => NewBx.nil _ _
        · have e : refS (rg rs r) i = true := by
            rw [hC, show (sd (rg rs r) (prv (rg rs r).length i)).gable = false from h47]
            rw [show (sd (rg rs r) i).gable = false from h51, show C4 = false from c4.symm.trans hx]
            cases C1 <;> rfl
          refine zI ?_
          refine zE ?_
          refine zB ?_
          iterate 2 refine wl_pure Tryz.hT rfl rfl rfl ?_
          refine wl_part 60 rfl (fun h60 => ?_) (fun h60 => ?_)
          · refine wl_skip rfl rfl ?_
            iterate 2 refine wl_skip rfl rfl ?_
            iterate 2 refine wl_pure Tryz.hT rfl rfl rfl ?_
            refine wl_nil ?_
            refine zN ?_
            refine zE ?_
            refine zB ?_
            iterate 3 refine wl_pure Tryz.hT rfl rfl rfl ?_
            refine wl_nil ?_
            exact ne_loop (i + 1) ⟨hi, good e⟩ (by omega) ⟨rfl, congrArg (fun z => some (Value.bool z)) (show _ = (someUp (rg rs r) (someRs rs r) i || !(sd (rg rs r) i).gable) by first | (rw [show someUp (rg rs r) (someRs rs r) i = true from h60]; rfl) | (rw [show someUp (rg rs r) (someRs rs r) i = false from h60]; rfl)), rfl, rfl, congrArg (fun z => some (Value.int .i64 z)) (wrap_id (x := (i : Int) + 1) (by omega) (by omega)), trivial⟩ [_, _] rfl
          · refine wl_pure Tryz.hT rfl rfl rfl ?_
            refine wl_loadBx 1 Tryz.hT rfl rfl rfl rfl rfl rfl rfl rfl ?_
            iterate 3 refine wl_pure Tryz.hT rfl rfl rfl ?_
            refine wl_nil ?_
            refine zN ?_
            refine zE ?_
            refine zB ?_
            iterate 3 refine wl_pure Tryz.hT rfl rfl rfl ?_
            refine wl_nil ?_
            exact ne_loop (i + 1) ⟨hi, good e⟩ (by omega) ⟨rfl, congrArg (fun z => some (Value.bool z)) (show _ = (someUp (rg rs r) (someRs rs r) i || !(sd (rg rs r) i).gable) by first | (rw [show someUp (rg rs r) (someRs rs r) i = true from h60]; rfl) | (rw [show someUp (rg rs r) (someRs rs r) i = false from h60]; rfl)), rfl, rfl, congrArg (fun z => some (Value.int .i64 z)) (wrap_id (x := (i : Int) + 1) (by omega) (by omega)), trivial⟩ [_, _] rfl
  · refine wl_skip rfl rfl ?_
    iterate 12 refine wl_skip rfl rfl ?_
    refine wl_pure Tryz.hT rfl rfl rfl ?_
    refine wl_nil ?_
    have e : refS (rg rs r) i = true := by rw [hC, show C1 = false from c1.symm.trans h44]; rfl
    refine zE ?_
    refine zS rfl ?_
    refine zI ?_
    refine zE ?_
    refine zB ?_
    iterate 2 refine wl_pure Tryz.hT rfl rfl rfl ?_
    refine wl_part 60 rfl (fun h60 => ?_) (fun h60 => ?_)
    · refine wl_skip rfl rfl ?_
      iterate 2 refine wl_skip rfl rfl ?_
      iterate 2 refine wl_pure Tryz.hT rfl rfl rfl ?_
      refine wl_nil ?_
      refine zN ?_
      refine zE ?_
      refine zB ?_
      iterate 3 refine wl_pure Tryz.hT rfl rfl rfl ?_
      refine wl_nil ?_
      exact ne_loop (i + 1) ⟨hi, good e⟩ (by omega) ⟨rfl, congrArg (fun z => some (Value.bool z)) (show _ = (someUp (rg rs r) (someRs rs r) i || !(sd (rg rs r) i).gable) by first | (rw [show someUp (rg rs r) (someRs rs r) i = true from h60]; rfl) | (rw [show someUp (rg rs r) (someRs rs r) i = false from h60]; rfl)), rfl, rfl, congrArg (fun z => some (Value.int .i64 z)) (wrap_id (x := (i : Int) + 1) (by omega) (by omega)), trivial⟩ [_, _] rfl
    · refine wl_pure Tryz.hT rfl rfl rfl ?_
      refine wl_loadBx 1 Tryz.hT rfl rfl rfl rfl rfl rfl rfl rfl ?_
      iterate 3 refine wl_pure Tryz.hT rfl rfl rfl ?_
      refine wl_nil ?_
      refine zN ?_
      refine zE ?_
      refine zB ?_
      iterate 3 refine wl_pure Tryz.hT rfl rfl rfl ?_
      refine wl_nil ?_
      exact ne_loop (i + 1) ⟨hi, good e⟩ (by omega) ⟨rfl, congrArg (fun z => some (Value.bool z)) (show _ = (someUp (rg rs r) (someRs rs r) i || !(sd (rg rs r) i).gable) by first | (rw [show someUp (rg rs r) (someRs rs r) i = true from h60]; rfl) | (rw [show someUp (rg rs r) (someRs rs r) i = false from h60]; rfl)), rfl, rfl, congrArg (fun z => some (Value.int .i64 z)) (wrap_id (x := (i : Int) + 1) (by omega) (by omega)), trivial⟩ [_, _] rfl
end Go.Proofs.YtnpfkmbcejgnjaaGreatDoor
namespace Go.Proofs.YtnpfkmbcejgnjaaGreatDoor
open Go Go.RowKit Go.Am
set_option maxRecDepth 10000
-- BOXES 1
/-- Why a plan is not valid, as the reference asks. -/
def chkR (rs : List (List Sd)) : Int :=
  if rs.any (fun l => l.length == 0) = true then 5
  else if tot rs = 0 then 5
  else if tot rs > 24 then 4
  else if rs.flatten.any (fun s => !rgd s) = true then 2
  else if rs.any (fun l => !shpR l) = true then 14
  else if crs rs = true then 15
  else if (!plcR rs || !jndR rs) = true then 14
  else 0
set_option maxHeartbeats 8000000 in
theorem checkR_gives (W : World) (p : Option Addr) (cap : Nat) (rs : List (List Sd)) (hn : rs.length < 4611686018427387904) (hT : tot rs < 1099511627776) (hR : RingsP W p rs) :
    CallsR Tryz.prog 24 #[planV p rs.length cap] W (fun _ : Unit => .int .i64 (chkR rs)) (fun _ => True) (fun _ => []) := by
  have hl : ∀ l ∈ rs, l.length < 4611686018427387904 := fun l h => by have := len_le_tot h; omega
  refine calls_enter (args := [planV p rs.length cap]) Tryz.func24 rfl rfl rfl ?_
  refine zA ?_
  refine zB ?_
  (refine wl_box rfl rfl rfl rfl ?_; intro)
  refine wl_pure Tryz.hT rfl rfl rfl ?_
  refine wl_nil ?_
  rename_i b1
  refine zE ?_
  iterate 2 refine zA ?_
  refine zB ?_
  refine wl_pure Tryz.hT rfl rfl rfl ?_
  refine wl_loadBx 0 Tryz.hT rfl rfl rfl rfl rfl rfl rfl rfl ?_
  iterate 2 refine wl_pure Tryz.hT rfl rfl rfl ?_
  refine wl_nil ?_
  refine zE ?_
  refine wc_cond rfl (fun h => ?_) (fun h => ?_)
  · refine zA ?_
    refine zB ?_
    refine wl_pure Tryz.hT rfl rfl rfl ?_
    refine wl_nil ?_
    refine zE ?_
    refine zO ?_
    refine zP ?_
    have h0 : rs = [] := by have h' : (((rs.length : Nat) : Int) == 0) = true := h; rw [beq_iff_eq] at h'; exact List.length_eq_zero_iff.1 (by omega)
    exact ne_ret1 Tryz.hT rfl (.tmp rfl) () (by subst h0; rfl) trivial fun W _ => NewBx.nil _ _
  have hpos : 0 < rs.length := by have h' : (((rs.length : Nat) : Int) == 0) = false := h; rw [beq_eq_false_iff_ne] at h'; omega
  clear h
  obtain ⟨b, off, rfl, hrow⟩ := hR.row hpos
  refine zI ?_
  refine zE ?_
  refine zA ?_
  refine zB ?_
  refine wl_pure Tryz.hT rfl rfl rfl ?_
  refine wl_nil ?_
  refine zE ?_
  iterate 2 refine zA ?_
  refine zB ?_
  refine wl_pure Tryz.hT rfl rfl rfl ?_
  refine wl_nil ?_
  refine zE ?_
  refine zH ?_
  refine wc_loop (X := Nat) (fun k => [(1, .pointer (some ⟨b1, 0, none⟩)), (3, .int .i64 (tot (rs.take k) : Nat)), (4, .int .i64 (k : Nat))]) (fun _ => [⟨b1, 24, [slv (some ⟨b, off, none⟩) rs.length cap], true, none⟩])
    (fun k => k ≤ rs.length ∧ ∀ j, j < k → (rg rs j).length ≠ 0) (fun k => rs.length - k) 0 ⟨Nat.zero_le _, fun j hj => absurd hj (Nat.not_lt_zero _)⟩ ⟨rfl, rfl, rfl, trivial⟩ [] rfl ?_
  rintro k ⟨hk, hok⟩
  iterate 2 refine zA ?_
  refine zB ?_
  iterate 2 refine wl_pure Tryz.hT rfl rfl rfl ?_
  refine wl_loadBx 0 Tryz.hT rfl rfl rfl rfl rfl rfl rfl rfl ?_
  iterate 2 refine wl_pure Tryz.hT rfl rfl rfl ?_
  refine wl_nil ?_
  refine zE ?_
  refine wc_cond rfl (fun h => ?_) (fun h => ?_)
  · have hk : k < rs.length := by simp at h; omega
    clear h
    obtain ⟨q, cap2, hq1, hq2⟩ := hrow k hk
    refine zI ?_
    refine zE ?_
    refine zA ?_
    refine zH ?_
    iterate 2 refine zA ?_
    refine zB ?_
    refine wl_pure Tryz.hT rfl rfl rfl ?_
    refine wl_loadBx 0 Tryz.hT rfl rfl rfl rfl rfl rfl rfl rfl ?_
    refine wl_pure Tryz.hT rfl rfl rfl ?_
    refine wl_indexAddr Tryz.hT rfl rfl rfl rfl rfl rfl rfl (by omega) (by omega) ?_
    refine wl_load rfl rfl rfl rfl (fun W hp => RowAt.load 0 Tryz.hT rfl ((fun W hp => hq1.hp hp) W hp) rfl) ?_
    iterate 2 refine wl_pure Tryz.hT rfl rfl rfl ?_
    refine wl_nil ?_
    refine zE ?_
    refine wc_cond rfl (fun h => ?_) (fun h => ?_)
    · refine zA ?_
      refine zB ?_
      refine wl_pure Tryz.hT rfl rfl rfl ?_
      refine wl_nil ?_
      refine zE ?_
      refine zO ?_
      refine zP ?_
      refine zQ ?_
      iterate 2 refine zP ?_
      refine zQ ?_
      refine zP ?_
      have he : rs.any (fun l => l.length == 0) = true := List.any_eq_true.2 ⟨_, List.mem_of_getElem? (rg_get hk), by have h' : ((((rg rs k).length : Nat) : Int) == 0) = true := h; rw [beq_iff_eq] at h' ⊢; omega⟩
      exact ne_ret1 Tryz.hT rfl (.tmp rfl) () (by unfold chkR; rw [if_pos he]) trivial fun W _ => NewBx.nil _ _
    have hz : (rg rs k).length ≠ 0 := by
      have h' : ((((rg rs k).length : Nat) : Int) == 0) = false := h
      rw [beq_eq_false_iff_ne] at h'; omega
    clear h
    refine zI ?_
    refine zE ?_
    refine zB ?_
    iterate 2 refine wl_pure Tryz.hT rfl rfl rfl ?_
    refine wl_loadBx 0 Tryz.hT rfl rfl rfl rfl rfl rfl rfl rfl ?_
    refine wl_pure Tryz.hT rfl rfl rfl ?_
    refine wl_indexAddr Tryz.hT rfl rfl rfl rfl rfl rfl rfl (by omega) (by omega) ?_
    refine wl_load rfl rfl rfl rfl (fun W hp => RowAt.load 0 Tryz.hT rfl ((fun W hp => hq1.hp hp) W hp) rfl) ?_
    iterate 3 refine wl_pure Tryz.hT rfl rfl rfl ?_
    refine wl_nil ?_
    have hs : w64 ((tot (rs.take k) : Nat) + ((rg rs k).length : Nat)) = (tot (rs.take (k + 1)) : Nat) := by
      have h1 := tot_take_succ hk
      have h2 := tot_take_le rs (k + 1)
      rw [w64_id (by omega) (by omega)]; omega
    refine zN ?_
    refine zE ?_
    refine zB ?_
    refine wl_upd 3 _ rfl (congrArg (Value.int .i64) hs) ?_
    iterate 3 refine wl_pure Tryz.hT rfl rfl rfl ?_
    refine wl_nil ?_
    refine ne_loop (k + 1) ⟨hk, fun j hj => ?_⟩ (by omega) ⟨rfl, rfl, congrArg (fun z => some (Value.int .i64 z)) (wrap_id (x := (k : Int) + 1) (by omega) (by omega)), trivial⟩ [] rfl
    by_cases e : j = k
    · subst e; exact hz
    · exact hok j (by omega)
  have e : k = rs.length := by simp at h; omega
  subst e
  clear h
  rw [List.take_length]
  have hne : ∀ l ∈ rs, l ≠ [] := fun l hl e => by
    obtain ⟨i, hi, e2⟩ := List.getElem_of_mem hl
    have := hok i hi
    rw [show rg rs i = rs[i] by simp [rg, hi], e2, e] at this
    exact this rfl
  have he : rs.any (fun l => l.length == 0) = false := Bool.eq_false_iff.2 fun h2 => by
    obtain ⟨l, h3, h4⟩ := List.any_eq_true.1 h2
    rw [beq_iff_eq] at h4
    exact hne l h3 (List.length_eq_zero_iff.1 h4)
  have hN : ¬ (rs.any (fun l => l.length == 0) = true) := by rw [he]; decide
  have h0 : ¬ tot rs = 0 := by
    have h1 := len_le_tot (List.mem_of_getElem? (rg_get hpos))
    have h2 := hok 0 hpos
    omega
  refine zJ ?_
  iterate 2 refine zK ?_
  refine zL ?_
  refine zE ?_
  iterate 2 refine zA ?_
  refine zB ?_
  iterate 2 refine wl_pure Tryz.hT rfl rfl rfl ?_
  refine wl_nil ?_
  refine zE ?_
  refine wc_cond rfl (fun h => ?_) (fun h => ?_)
  · refine zA ?_
    refine zB ?_
    refine wl_pure Tryz.hT rfl rfl rfl ?_
    refine wl_nil ?_
    refine zE ?_
    refine zO ?_
    refine zP ?_
    have h1 : tot rs > 24 := by have h' : decide (((tot rs : Nat) : Int) > 24) = true := h; rw [decide_eq_true_iff] at h'; omega
    exact ne_ret1 Tryz.hT rfl (.tmp rfl) () (by unfold chkR; rw [if_neg hN, if_neg h0, if_pos h1]) trivial fun W _ => NewBx.nil _ _
  have h1 : ¬ tot rs > 24 := by have h' : decide (((tot rs : Nat) : Int) > 24) = false := h; rw [decide_eq_false_iff_not] at h'; omega
  clear h
  refine zI ?_
  refine zE ?_
  iterate 2 refine zA ?_
  refine zB ?_
  refine wl_pure Tryz.hT rfl rfl rfl ?_
  refine wl_nil ?_
  refine zE ?_
  refine zH ?_
  refine wc_loop (X := Nat) (fun k => [(1, .pointer (some ⟨b1, 0, none⟩)), (5, .int .i64 (k : Nat))]) (fun _ => [⟨b1, 24, [slv (some ⟨b, off, none⟩) rs.length cap], true, none⟩])
    (fun k => k ≤ rs.length ∧ ∀ j, j < k → ∀ s ∈ rg rs j, rgd s = true) (fun k => rs.length - k) 0 ⟨Nat.zero_le _, fun j hj => absurd hj (Nat.not_lt_zero _)⟩ ⟨rfl, rfl, trivial⟩ [] rfl ?_
  rintro k ⟨hk, hok2⟩
  iterate 2 refine zA ?_
  refine zB ?_
  iterate 2 refine wl_pure Tryz.hT rfl rfl rfl ?_
  refine wl_loadBx 0 Tryz.hT rfl rfl rfl rfl rfl rfl rfl rfl ?_
  iterate 2 refine wl_pure Tryz.hT rfl rfl rfl ?_
  refine wl_nil ?_
  refine zE ?_
  refine wc_cond rfl (fun h => ?_) (fun h => ?_)
  · have hk : k < rs.length := by simp at h; omega
    clear h
    obtain ⟨q, cap2, hq1, hq2⟩ := hrow k hk
    have hlk := hl _ (List.mem_of_getElem? (rg_get hk))
    refine zI ?_
    refine zE ?_
    refine zA ?_
    refine zH ?_
    refine zA ?_
    refine zB ?_
    refine wl_pure Tryz.hT rfl rfl rfl ?_
    refine wl_nil ?_
    refine zE ?_
    refine zH ?_
    refine wc_loop (X := Nat) (fun i => [(1, .pointer (some ⟨b1, 0, none⟩)), (5, .int .i64 (k : Nat)), (6, .int .i64 (i : Nat))]) (fun _ => [⟨b1, 24, [slv (some ⟨b, off, none⟩) rs.length cap], true, none⟩])
      (fun i => i ≤ (rg rs k).length ∧ ∀ j, j < i → rgd (sd (rg rs k) j) = true) (fun i => (rg rs k).length - i) 0 ⟨Nat.zero_le _, fun j hj => absurd hj (Nat.not_lt_zero _)⟩ ⟨rfl, rfl, rfl, trivial⟩ [] rfl ?_
    rintro i ⟨hi, hoki⟩
    iterate 2 refine zA ?_
    refine zB ?_
    iterate 2 refine wl_pure Tryz.hT rfl rfl rfl ?_
    refine wl_loadBx 0 Tryz.hT rfl rfl rfl rfl rfl rfl rfl rfl ?_
    refine wl_pure Tryz.hT rfl rfl rfl ?_
    refine wl_indexAddr Tryz.hT rfl rfl rfl rfl rfl rfl rfl (by omega) (by omega) ?_
    refine wl_load rfl rfl rfl rfl (fun W hp => RowAt.load 0 Tryz.hT rfl ((fun W hp => hq1.hp hp) W hp) rfl) ?_
    iterate 2 refine wl_pure Tryz.hT rfl rfl rfl ?_
    refine wl_nil ?_
    refine zE ?_
    refine wc_cond rfl (fun h => ?_) (fun h => ?_)
    · have hi : i < (rg rs k).length := by simp at h; omega
      clear h
      obtain ⟨b4, off4, rfl, hrow4⟩ := hq2.row hi
      refine zI ?_
      refine zE ?_
      refine zA ?_
      refine zH ?_
      refine zA ?_
      refine zB ?_
      refine wl_pure Tryz.hT rfl rfl rfl ?_
      refine wl_loadBx 0 Tryz.hT rfl rfl rfl rfl rfl rfl rfl rfl ?_
      refine wl_pure Tryz.hT rfl rfl rfl ?_
      refine wl_indexAddr Tryz.hT rfl rfl rfl rfl rfl rfl rfl (by omega) (by omega) ?_
      refine wl_load rfl rfl rfl rfl (fun W hp => RowAt.load 0 Tryz.hT rfl ((fun W hp => hq1.hp hp) W hp) rfl) ?_
      refine wl_pure Tryz.hT rfl rfl rfl ?_
      refine wl_indexAddr Tryz.hT rfl rfl rfl rfl rfl rfl rfl (by omega) (by omega) ?_
      refine wl_load rfl rfl rfl rfl (fun W hp => RowAt.load 0 Tryz.hT rfl ((fun W hp => (hrow4 i hi).hp hp) W hp) rfl) ?_
      refine wl_call1 rfl rfl rfl rfl rfl rfl (by kernel_rfl) (fun W _ => rangedR_gives (sd (rg rs k) i) W) ?_
      refine wl_pure Tryz.hT rfl rfl rfl ?_
      refine wl_nil ?_
      refine zE ?_
      refine wc_cond rfl (fun h => ?_) (fun h => ?_)
      · refine zA ?_
        refine zB ?_
        refine wl_pure Tryz.hT rfl rfl rfl ?_
        refine wl_nil ?_
        refine zE ?_
        refine zO ?_
        refine zQ ?_
        iterate 2 refine zP ?_
        iterate 2 refine zQ ?_
        iterate 2 refine zP ?_
        refine zQ ?_
        refine zP ?_
        have h2 : rs.flatten.any (fun s => !rgd s) = true := List.any_eq_true.2 ⟨sd (rg rs k) i, List.mem_flatten.2 ⟨rg rs k, List.mem_of_getElem? (rg_get hk), List.mem_of_getElem? (sd_get hi)⟩, h⟩
        exact ne_ret1 Tryz.hT rfl (.tmp rfl) () (by unfold chkR; rw [if_neg hN, if_neg h0, if_neg h1, if_pos h2]) trivial fun W _ => NewBx.nil _ _
      · have hg : rgd (sd (rg rs k) i) = true := by have h' : (!rgd (sd (rg rs k) i)) = false := h; simpa using h'
        refine zI ?_
        refine zN ?_
        refine zE ?_
        refine zB ?_
        iterate 3 refine wl_pure Tryz.hT rfl rfl rfl ?_
        refine wl_nil ?_
        refine ne_loop (i + 1) ⟨hi, fun j hj => ?_⟩ (by omega) ⟨rfl, rfl, congrArg (fun z => some (Value.int .i64 z)) (wrap_id (x := (i : Int) + 1) (by omega) (by omega)), trivial⟩ [] rfl
        by_cases e : j = i
        · subst e; exact hg
        · exact hoki j (by omega)
    · have e : i = (rg rs k).length := by simp at h; omega
      subst e
      refine zJ ?_
      iterate 2 refine zK ?_
      refine zL ?_
      refine zN ?_
      refine zE ?_
      refine zB ?_
      iterate 3 refine wl_pure Tryz.hT rfl rfl rfl ?_
      refine wl_nil ?_
      refine ne_loop (k + 1) ⟨hk, fun j hj s hs => ?_⟩ (by omega) ⟨rfl, congrArg (fun z => some (Value.int .i64 z)) (wrap_id (x := (k : Int) + 1) (by omega) (by omega)), trivial⟩ [] rfl
      by_cases e : j = k
      · subst e
        obtain ⟨m, hm, e⟩ := List.getElem_of_mem hs
        have := hoki m hm
        rw [show sd (rg rs j) m = s by simp [sd, hm, e]] at this
        exact this
      · exact hok2 j (by omega) s hs
  have e : k = rs.length := by simp at h; omega
  subst e
  clear h
  have hrg : ∀ l ∈ rs, ∀ s ∈ l, rgd s = true := fun l hl s hs => by
    obtain ⟨i, hi, e2⟩ := List.getElem_of_mem hl
    have := hok2 i hi
    rw [show rg rs i = l by simp [rg, hi, e2]] at this
    exact this s hs
  have h2 : ¬ (rs.flatten.any (fun s => !rgd s) = true) := fun h => by
    obtain ⟨s, hs, h⟩ := List.any_eq_true.1 h
    obtain ⟨l, hl, hs⟩ := List.mem_flatten.1 hs
    rw [hrg l hl s hs] at h; cases h
  refine zJ ?_
  iterate 2 refine zK ?_
  refine zL ?_
  refine zE ?_
  iterate 2 refine zA ?_
  refine zB ?_
  refine wl_pure Tryz.hT rfl rfl rfl ?_
  refine wl_nil ?_
  refine zE ?_
  refine zH ?_
  refine wc_loop (X := Nat) (fun k => [(1, .pointer (some ⟨b1, 0, none⟩)), (7, .int .i64 (k : Nat))]) (fun _ => [⟨b1, 24, [slv (some ⟨b, off, none⟩) rs.length cap], true, none⟩])
    (fun k => k ≤ rs.length ∧ ∀ j, j < k → shpR (rg rs j) = true) (fun k => rs.length - k) 0 ⟨Nat.zero_le _, fun j hj => absurd hj (Nat.not_lt_zero _)⟩ ⟨rfl, rfl, trivial⟩ [] rfl ?_
  rintro k ⟨hk, hok3⟩
  iterate 2 refine zA ?_
  refine zB ?_
  iterate 2 refine wl_pure Tryz.hT rfl rfl rfl ?_
  refine wl_loadBx 0 Tryz.hT rfl rfl rfl rfl rfl rfl rfl rfl ?_
  iterate 2 refine wl_pure Tryz.hT rfl rfl rfl ?_
  refine wl_nil ?_
  refine zE ?_
  refine wc_cond rfl (fun h => ?_) (fun h => ?_)
  · have hk : k < rs.length := by simp at h; omega
    clear h
    obtain ⟨q, cap2, hq1, hq2⟩ := hrow k hk
    have hlk := hl _ (List.mem_of_getElem? (rg_get hk))
    refine zI ?_
    refine zE ?_
    refine zA ?_
    refine zH ?_
    refine zA ?_
    refine zB ?_
    refine wl_pure Tryz.hT rfl rfl rfl ?_
    refine wl_loadBx 0 Tryz.hT rfl rfl rfl rfl rfl rfl rfl rfl ?_
    refine wl_pure Tryz.hT rfl rfl rfl ?_
    refine wl_indexAddr Tryz.hT rfl rfl rfl rfl rfl rfl rfl (by omega) (by omega) ?_
    refine wl_load rfl rfl rfl rfl (fun W hp => RowAt.load 0 Tryz.hT rfl ((fun W hp => hq1.hp hp) W hp) rfl) ?_
    refine wl_call1 rfl rfl rfl rfl rfl rfl (by kernel_rfl) (fun W hp => shapedR_gives W q cap2 (rg rs k) hlk (hq2.hp hp)) ?_
    refine wl_pure Tryz.hT rfl rfl rfl ?_
    refine wl_nil ?_
    refine zE ?_
    refine wc_cond rfl (fun h => ?_) (fun h => ?_)
    · refine zA ?_
      refine zB ?_
      refine wl_pure Tryz.hT rfl rfl rfl ?_
      refine wl_nil ?_
      refine zE ?_
      refine zO ?_
      refine zQ ?_
      iterate 2 refine zP ?_
      refine zQ ?_
      refine zP ?_
      have h3 : rs.any (fun l => !shpR l) = true := List.any_eq_true.2 ⟨_, List.mem_of_getElem? (rg_get hk), h⟩
      exact ne_ret1 Tryz.hT rfl (.tmp rfl) () (by unfold chkR; rw [if_neg hN, if_neg h0, if_neg h1, if_neg h2, if_pos h3]) trivial fun W _ => NewBx.nil _ _
    · have hg : shpR (rg rs k) = true := by have h' : (!shpR (rg rs k)) = false := h; simpa using h'
      refine zI ?_
      refine zN ?_
      refine zE ?_
      refine zB ?_
      iterate 3 refine wl_pure Tryz.hT rfl rfl rfl ?_
      refine wl_nil ?_
      refine ne_loop (k + 1) ⟨hk, fun j hj => ?_⟩ (by omega) ⟨rfl, congrArg (fun z => some (Value.int .i64 z)) (wrap_id (x := (k : Int) + 1) (by omega) (by omega)), trivial⟩ [] rfl
      by_cases e : j = k
      · subst e; exact hg
      · exact hok3 j (by omega)
  have e : k = rs.length := by simp at h; omega
  subst e
  clear h
  have h3 : ¬ (rs.any (fun l => !shpR l) = true) := fun h => by
    obtain ⟨l, hl, h⟩ := List.any_eq_true.1 h
    obtain ⟨i, hi, e2⟩ := List.getElem_of_mem hl
    have := hok3 i hi
    rw [show rg rs i = l by simp [rg, hi, e2]] at this
    rw [this] at h; cases h
  refine zJ ?_
  iterate 2 refine zK ?_
  refine zL ?_
  refine zE ?_
  iterate 2 refine zA ?_
  refine zB ?_
  refine wl_pure Tryz.hT rfl rfl rfl ?_
  refine wl_loadBx 0 Tryz.hT rfl rfl rfl rfl rfl rfl rfl rfl ?_
  refine wl_call1 rfl rfl rfl rfl rfl rfl (by kernel_rfl) (fun W hp => crossedR_gives W _ cap rs hn hl (hR.below (Nat.le_refl _) hp.below)) ?_
  refine wl_nil ?_
  refine zE ?_
  refine wc_cond rfl (fun h => ?_) (fun h => ?_)
  · refine zA ?_
    refine zB ?_
    refine wl_pure Tryz.hT rfl rfl rfl ?_
    refine wl_nil ?_
    refine zE ?_
    refine zO ?_
    refine zP ?_
    exact ne_ret1 Tryz.hT rfl (.tmp rfl) () (by unfold chkR; rw [if_neg hN, if_neg h0, if_neg h1, if_neg h2, if_neg h3, if_pos h]) trivial fun W _ => NewBx.nil _ _
  have h4 : ¬ (crs rs = true) := by rw [h]; decide
  clear h
  refine zI ?_
  refine zE ?_
  iterate 2 refine zA ?_
  refine zB ?_
  refine wl_pure Tryz.hT rfl rfl rfl ?_
  refine wl_loadBx 0 Tryz.hT rfl rfl rfl rfl rfl rfl rfl rfl ?_
  refine wl_call1 rfl rfl rfl rfl rfl rfl (by kernel_rfl) (fun W hp => placedR_gives W _ cap rs hn hl hne hpos (hR.below (Nat.le_refl _) hp.below)) ?_
  iterate 2 refine wl_pure Tryz.hT rfl rfl rfl ?_
  refine wl_part 84 rfl (fun h84 => ?_) (fun h84 => ?_)
  · refine wl_skip rfl rfl ?_
    iterate 3 refine wl_skip rfl rfl ?_
    refine wl_pure Tryz.hT rfl rfl rfl ?_
    refine wl_nil ?_
    have h5 : (!plcR rs || !jndR rs) = true := by rw [show (!plcR rs) = true from h84]; rfl
    refine zE ?_
    refine zR rfl ?_
    refine zA ?_
    refine zB ?_
    refine wl_pure Tryz.hT rfl rfl rfl ?_
    refine wl_nil ?_
    refine zE ?_
    refine zO ?_
    refine zP ?_
    exact ne_ret1 Tryz.hT rfl (.tmp rfl) () (by unfold chkR; rw [if_neg hN, if_neg h0, if_neg h1, if_neg h2, if_neg h3, if_neg h4, if_pos h5]) trivial fun W _ => NewBx.nil _ _
  · refine wl_pure Tryz.hT rfl rfl rfl ?_
    refine wl_loadBx 0 Tryz.hT rfl rfl rfl rfl rfl rfl rfl rfl ?_
    refine wl_call1 rfl rfl rfl rfl rfl rfl (by kernel_rfl) (fun W hp => reflex_gives W _ cap rs hn hl (hR.below (Nat.le_refl _) hp.below)) ?_
    iterate 2 refine wl_pure Tryz.hT rfl rfl rfl ?_
    refine wl_nil ?_
    have h' : (!plcR rs) = false := h84
    refine zE ?_
    refine wc_cond rfl (fun h => ?_) (fun h => ?_)
    · refine zA ?_
      refine zB ?_
      refine wl_pure Tryz.hT rfl rfl rfl ?_
      refine wl_nil ?_
      refine zE ?_
      refine zO ?_
      refine zP ?_
      have h5 : (!plcR rs || !jndR rs) = true := by rw [h', show (!jndR rs) = true from h]; rfl
      exact ne_ret1 Tryz.hT rfl (.tmp rfl) () (by unfold chkR; rw [if_neg hN, if_neg h0, if_neg h1, if_neg h2, if_neg h3, if_neg h4, if_pos h5]) trivial fun W _ => NewBx.nil _ _
    · refine zI ?_
      refine zE ?_
      refine zA ?_
      refine zB ?_
      refine wl_pure Tryz.hT rfl rfl rfl ?_
      refine wl_nil ?_
      refine zE ?_
      refine zO ?_
      have h5 : ¬ ((!plcR rs || !jndR rs) = true) := by rw [h', show (!jndR rs) = false from h]; decide
      exact ne_ret1 Tryz.hT rfl (.tmp rfl) () (by unfold chkR; rw [if_neg hN, if_neg h0, if_neg h1, if_neg h2, if_neg h3, if_neg h4, if_neg h5]) trivial fun W _ => NewBx.nil _ _
end Go.Proofs.YtnpfkmbcejgnjaaGreatDoor
namespace Go.Proofs.YtnpfkmbcejgnjaaGreatDoor
open Go Go.RowKit Go.Am
theorem sgI_cases (a : Int) : (sgI a = -1 ∧ a < 0) ∨ (sgI a = 0 ∧ a = 0) ∨ (sgI a = 1 ∧ a > 0) := by
  unfold sgI
  rcases Int.lt_trichotomy a 0 with h | h | h
  · rw [if_pos h]; exact .inl ⟨rfl, h⟩
  · rw [if_neg (by omega), if_neg (by omega)]; exact .inr (.inl ⟨rfl, h⟩)
  · rw [if_neg (by omega), if_pos h]; exact .inr (.inr ⟨rfl, h⟩)
theorem dir_eq {l : List Sd} (hr : ∀ s ∈ l, inR s) {i : Nat} (hi : i < l.length) : dirX l i = sgI ((sd l (nxt l.length i)).x - (sd l i).x) ∧ dirY l i = sgI ((sd l (nxt l.length i)).y - (sd l i).y) := by
  obtain ⟨s1, s2, s3, s4⟩ := sd_inR hr hi
  obtain ⟨n1, n2, n3, n4⟩ := sd_inR hr (nxt_lt hi)
  unfold dirX dirY
  rw [d64 ⟨n1, n2⟩ ⟨s1, s2⟩, d64 ⟨n3, n4⟩ ⟨s3, s4⟩]
  exact ⟨rfl, rfl⟩
theorem ax_iff {l : List Sd} (hr : ∀ s ∈ l, inR s) {i : Nat} (hi : i < l.length) : axR l i = true ↔ ¬ (((sd l (nxt l.length i)).x - (sd l i).x = 0) ↔ ((sd l (nxt l.length i)).y - (sd l i).y = 0)) := by
  obtain ⟨e1, e2⟩ := dir_eq hr hi
  unfold axR
  rw [e1, e2]
  generalize (sd l (nxt l.length i)).x - (sd l i).x = a
  generalize (sd l (nxt l.length i)).y - (sd l i).y = b
  rcases sgI_cases a with ⟨ea, ha⟩ | ⟨ea, ha⟩ | ⟨ea, ha⟩ <;> rcases sgI_cases b with ⟨eb, hb⟩ | ⟨eb, hb⟩ | ⟨eb, hb⟩ <;> rw [ea, eb]
  · rw [show (w64 (w64 (-1 * -1) + w64 (-1 * -1)) == 1) = false by decide]; constructor <;> intro h; cases h; omega
  · rw [show (w64 (w64 (-1 * -1) + w64 (0 * 0)) == 1) = true by decide]; constructor <;> intro h; omega; rfl
  · rw [show (w64 (w64 (-1 * -1) + w64 (1 * 1)) == 1) = false by decide]; constructor <;> intro h; cases h; omega
  · rw [show (w64 (w64 (0 * 0) + w64 (-1 * -1)) == 1) = true by decide]; constructor <;> intro h; omega; rfl
  · rw [show (w64 (w64 (0 * 0) + w64 (0 * 0)) == 1) = false by decide]; constructor <;> intro h; cases h; omega
  · rw [show (w64 (w64 (0 * 0) + w64 (1 * 1)) == 1) = true by decide]; constructor <;> intro h; omega; rfl
  · rw [show (w64 (w64 (1 * 1) + w64 (-1 * -1)) == 1) = false by decide]; constructor <;> intro h; cases h; omega
  · rw [show (w64 (w64 (1 * 1) + w64 (0 * 0)) == 1) = true by decide]; constructor <;> intro h; omega; rfl
  · rw [show (w64 (w64 (1 * 1) + w64 (1 * 1)) == 1) = false by decide]; constructor <;> intro h; cases h; omega
/-- The turn between two sides at right angles, or in one line. -/
theorem trn_cases {l : List Sd} (hr : ∀ s ∈ l, inR s) {i : Nat} (hi : i < l.length) (h1 : axR l i = true) (h2 : axR l (prv l.length i) = true) :
    (trnR l i ≠ 0 ↔ ¬ (((sd l i).x - (sd l (prv l.length i)).x = 0) ↔ ((sd l (nxt l.length i)).x - (sd l i).x = 0))) ∧ (trnR l i ≠ 0 → (trnR l i < 0 ↔ leftB (sd l (prv l.length i)) (sd l i) (sd l (nxt l.length i)) = false)) := by
  have a1 := (ax_iff hr hi).1 h1
  have a2 := (ax_iff hr (prv_lt hi)).1 h2
  obtain ⟨e1, e2⟩ := dir_eq hr hi
  obtain ⟨e3, e4⟩ := dir_eq hr (prv_lt hi)
  rw [nxt_prv hi] at a2 e3 e4
  have i1 := sd_inR hr hi
  have i2 := sd_inR hr (nxt_lt hi)
  have i3 := sd_inR hr (prv_lt hi)
  rw [leftB_eq i3 i1 i2, decide_eq_false_iff_not]
  unfold trnR
  rw [e1, e2, e3, e4]
  generalize (sd l (nxt l.length i)).x - (sd l i).x = c at *
  generalize (sd l (nxt l.length i)).y - (sd l i).y = d at *
  generalize (sd l i).x - (sd l (prv l.length i)).x = a at *
  generalize (sd l i).y - (sd l (prv l.length i)).y = b at *
  have pp : ∀ x y : Int, x > 0 → y > 0 → x * y > 0 := fun x y h h' => Int.mul_pos h h'
  have pn : ∀ x y : Int, x > 0 → y < 0 → x * y < 0 := fun x y h h' => Int.mul_neg_of_pos_of_neg h h'
  have np : ∀ x y : Int, x < 0 → y > 0 → x * y < 0 := fun x y h h' => Int.mul_neg_of_neg_of_pos h h'
  have nn : ∀ x y : Int, x < 0 → y < 0 → x * y > 0 := fun x y h h' => Int.mul_pos_of_neg_of_neg h h'
  by_cases ha : a = 0
  · subst ha
    have hb : b ≠ 0 := by omega
    rw [show sgI 0 = 0 from rfl, Int.zero_mul, Int.zero_mul]
    by_cases hd : d = 0
    · subst hd
      have hc : c ≠ 0 := by omega
      rcases sgI_cases b with ⟨eb, hb'⟩ | ⟨eb, hb'⟩ | ⟨eb, hb'⟩ <;> rcases sgI_cases c with ⟨ec, hc'⟩ | ⟨ec, hc'⟩ | ⟨ec, hc'⟩ <;> first | omega | skip
      · rw [eb, ec, show w64 (w64 0 - w64 (-1 * -1)) = -1 by decide]; have := nn b c hb' hc'; omega
      · rw [eb, ec, show w64 (w64 0 - w64 (-1 * 1)) = 1 by decide]; have := np b c hb' hc'; omega
      · rw [eb, ec, show w64 (w64 0 - w64 (1 * -1)) = 1 by decide]; have := pn b c hb' hc'; omega
      · rw [eb, ec, show w64 (w64 0 - w64 (1 * 1)) = -1 by decide]; have := pp b c hb' hc'; omega
    · have hc : c = 0 := by omega
      subst hc
      rw [show sgI 0 = 0 from rfl, Int.mul_zero, show w64 (w64 0 - w64 0) = 0 by decide]
      omega
  · have hb : b = 0 := by omega
    subst hb
    rw [show sgI 0 = 0 from rfl, Int.zero_mul, Int.zero_mul]
    by_cases hc : c = 0
    · subst hc
      have hd : d ≠ 0 := by omega
      rcases sgI_cases a with ⟨eb, hb'⟩ | ⟨eb, hb'⟩ | ⟨eb, hb'⟩ <;> rcases sgI_cases d with ⟨ec, hc'⟩ | ⟨ec, hc'⟩ | ⟨ec, hc'⟩ <;> first | omega | skip
      · rw [eb, ec, show w64 (w64 (-1 * -1) - w64 0) = 1 by decide]; have := nn a d hb' hc'; omega
      · rw [eb, ec, show w64 (w64 (-1 * 1) - w64 0) = -1 by decide]; have := np a d hb' hc'; omega
      · rw [eb, ec, show w64 (w64 (1 * -1) - w64 0) = -1 by decide]; have := pn a d hb' hc'; omega
      · rw [eb, ec, show w64 (w64 (1 * 1) - w64 0) = 1 by decide]; have := pp a d hb' hc'; omega
    · have hd : d = 0 := by omega
      subst hd
      rw [show sgI 0 = 0 from rfl, Int.mul_zero, show w64 (w64 0 - w64 0) = 0 by decide]
      omega
theorem shp_eq {l : List Sd} (hr : ∀ s ∈ l, inR s) : shpR l = shp l := by
  rw [Bool.eq_iff_iff]
  constructor
  · intro h
    unfold shpR at h
    obtain ⟨h1, h2⟩ := Bool.and_eq_true_iff.1 h
    have ok : ∀ i, i < l.length → axR l i = true ∧ trnR l i ≠ 0 := fun i hi => by
      have := List.all_eq_true.1 h1 i (List.mem_range.2 hi)
      unfold okR at this
      obtain ⟨a, b⟩ := Bool.and_eq_true_iff.1 this
      exact ⟨a, by simpa using b⟩
    exact shp_mk hr (of_decide_eq_true h2) fun i hi => ⟨(ax_iff hr hi).1 (ok i hi).1, (trn_cases hr hi (ok i hi).1 (ok _ (prv_lt hi)).1).1.1 (ok i hi).2⟩
  · intro h
    have ax : ∀ i, i < l.length → axR l i = true := fun i hi => (ax_iff hr hi).2 (shp_side hr h hi).1
    unfold shpR
    rw [decide_eq_true (shp_len h), Bool.and_true]
    refine List.all_eq_true.2 fun i hi => ?_
    have hi := List.mem_range.1 hi
    have := (trn_cases hr hi (ax i hi) (ax _ (prv_lt hi))).1.2 (shp_side hr h hi).2
    unfold okR
    rw [ax i hi, beq_eq_false_iff_ne.2 this]; rfl
theorem shp_turn {l : List Sd} (hr : ∀ s ∈ l, inR s) (h : shp l = true) {i : Nat} (hi : i < l.length) : trnR l i ≠ 0 ∧ (trnR l i < 0 ↔ leftB (sd l (prv l.length i)) (sd l i) (sd l (nxt l.length i)) = false) := by
  have ax : ∀ i, i < l.length → axR l i = true := fun i hi => (ax_iff hr hi).2 (shp_side hr h hi).1
  have t := trn_cases hr hi (ax i hi) (ax _ (prv_lt hi))
  have hne := t.1.2 (shp_side hr h hi).2
  exact ⟨hne, t.2 hne⟩
theorem ref_eq {l : List Sd} (hr : ∀ s ∈ l, inR s) (h : shp l = true) {i : Nat} (hi : i < l.length) : refS l i = joinSide l i := by
  have t := (shp_turn hr h hi).2
  unfold refS joinSide joinB
  cases hl : leftB (sd l (prv l.length i)) (sd l i) (sd l (nxt l.length i)) with
  | true => rw [decide_eq_false (fun e => by rw [t.1 e] at hl; cases hl)]; rfl
  | false =>
    rw [decide_eq_true (t.2 hl), Bool.true_and, Bool.false_or]
    have e : ∀ a b : Int, (!(false || false || (a != b))) = (!false && !false && (b == a)) := fun a b => by
      by_cases h : a = b
      · subst h; simp
      · rw [bne_iff_ne.2 h, beq_eq_false_iff_ne.2 (fun x => h x.symm)]; rfl
    cases (sd l i).gable <;> cases (sd l (prv l.length i)).gable <;> first | rfl | exact e _ _
theorem jnd_eq {rs : List (List Sd)} (hin : allR rs) (hs : ∀ l ∈ rs, shp l = true) : jndR rs = jnd rs := by
  unfold jndR jnd
  congr 1
  rw [Bool.eq_iff_iff, List.all_eq_true, List.all_eq_true]
  have e : ∀ l ∈ rs, ((List.range l.length).all (refS l)) = joinRing l := fun l hl => all_congr fun i hi => ref_eq (hin l hl) (hs l hl) hi
  constructor <;> intro h l hl
  · rw [← e l hl]; exact h l hl
  · rw [e l hl]; exact h l hl
theorem tw_eq {l : List Sd} (h : ∀ s ∈ l, inR s) : ∀ k, k ≤ l.length → k ≤ 1000000 → twR l k = sumTo (crossAt l) k ∧ -(k * 4294967296 : Int) ≤ twR l k ∧ twR l k ≤ k * 4294967296
  | 0, _, _ => ⟨rfl, by simp [twR], by simp [twR]⟩
  | k + 1, hk, hm => by
    obtain ⟨h1, h2, h3⟩ := tw_eq h k (by omega) (by omega)
    have hs := sd_inR h (show k < l.length by omega)
    have hn := sd_inR h (nxt_lt (show k < l.length by omega))
    obtain ⟨a1, a2⟩ := mul_bound hs.1 hs.2.1 hn.2.2.1 hn.2.2.2
    obtain ⟨b1, b2⟩ := mul_bound hs.2.2.1 hs.2.2.2 hn.1 hn.2.1
    have e : twR l (k + 1) = twR l k + crossAt l k := by
      show w64 (w64 (twR l k + w64 ((sd l k).x * (sd l (nxt l.length k)).y)) - w64 ((sd l (nxt l.length k)).x * (sd l k).y)) = _
      unfold crossAt
      rw [Int.mul_comm (sd l (nxt l.length k)).x, w64_id (x := (sd l k).x * _) (by omega) (by omega), w64_id (x := (sd l k).y * _) (by omega) (by omega), w64_id (x := twR l k + _) (by omega) (by omega)]
      rw [w64_id (by omega) (by omega)]; omega
    have ec : crossAt l k = (sd l k).x * (sd l (nxt l.length k)).y - (sd l k).y * (sd l (nxt l.length k)).x := rfl
    refine ⟨by rw [e, h1]; rfl, ?_, ?_⟩ <;> rw [e, ec] <;> push_cast <;> omega
theorem ins_eq {l : List Sd} (h : ∀ s ∈ l, inR s) (px py : Int) : ∀ k, k ≤ l.length → insR l px py k = insUp l px py k
  | 0, _ => rfl
  | k + 1, hk => by
    have hs := sd_inR h (show k < l.length by omega)
    have hn := sd_inR h (nxt_lt (show k < l.length by omega))
    have e : passR (sd l k) (sd l (nxt l.length k)) px py = passB (sd l k) (sd l (nxt l.length k)) px py := by
      unfold passR passB
      rw [d64 ⟨hn.1, hn.2.1⟩ ⟨hs.1, hs.2.1⟩]
      generalize sd l k = t
      generalize sd l (nxt l.length k) = u
      by_cases hx : t.x = u.x
      · rw [beq_iff_eq.2 hx, beq_iff_eq.2 (show u.x - t.x = 0 by omega), hx]
        rw [Bool.true_and, Bool.and_assoc]
        congr 1
        unfold loy hiy
        by_cases h1 : t.y > py <;> by_cases h2 : u.y > py
        · rw [decide_eq_true h1, decide_eq_true h2, decide_eq_false (by split <;> omega)]; rfl
        · rw [decide_eq_true h1, decide_eq_false h2, decide_eq_true (by split <;> omega), decide_eq_true (by split <;> omega)]; rfl
        · rw [decide_eq_false h1, decide_eq_true h2, decide_eq_true (by split <;> omega), decide_eq_true (by split <;> omega)]; rfl
        · rw [decide_eq_false h1, decide_eq_false h2, decide_eq_false (p := py < _) (by split <;> omega), Bool.and_false]; rfl
      · rw [beq_eq_false_iff_ne.2 hx, beq_eq_false_iff_ne.2 (show u.x - t.x ≠ 0 by omega)]; rfl
    show (if passR (sd l k) (sd l (nxt l.length k)) px py = true then !insR l px py k else insR l px py k) = (if passB (sd l k) (sd l (nxt l.length k)) px py = true then !insUp l px py k else insUp l px py k)
    rw [e, ins_eq h px py k (by omega)]
theorem plc_eq {rs : List (List Sd)} (hin : allR rs) (hs : ∀ l ∈ rs, shp l = true) (hc : crs rs = false) (hT : tot rs ≤ 24) (hpos : 0 < rs.length) : plcR rs = plc rs := by
  have ar : ∀ r, r < rs.length → twR (rg rs r) (rg rs r).length = areaUp (rg rs r) (rg rs r).length ∧ areaUp (rg rs r) (rg rs r).length ≠ 0 := fun r hr => by
    have hm : rg rs r ∈ rs := List.mem_of_getElem? (rg_get hr)
    have hlen := len_le_tot hm
    rw [(tw_eq (hin _ hm) _ (Nat.le_refl _) (by omega)).1, (areaUp_eq (hin _ hm) _ (Nat.le_refl _) (by omega)).1]
    exact ⟨rfl, area_ne hin hs hc hr⟩
  have pk : ∀ r s, r < rs.length → s < rs.length → r ≠ 0 → plsR rs r s = placeK rs r s := fun r s hr hs' h0 => by
    unfold plsR placeK
    rw [ins_eq (hin _ (List.mem_of_getElem? (rg_get hs'))) _ _ _ (Nat.le_refl _), beq_eq_false_iff_ne.2 h0, Bool.or_false]
  have all : ∀ r, r < rs.length → r ≠ 0 → ((List.range rs.length).all (plsR rs r)) = ((List.range rs.length).all (placeK rs r)) := fun r hr h0 => all_congr fun s hs' => pk r s hr hs' h0
  rw [Bool.eq_iff_iff]
  constructor
  · intro h
    unfold plcR at h
    obtain ⟨h1, h2⟩ := Bool.and_eq_true_iff.1 h
    refine List.all_eq_true.2 fun r hr => ?_
    have hr := List.mem_range.1 hr
    have hr2 := List.all_eq_true.1 h2 r (List.mem_range.2 hr)
    obtain ⟨a1, a2⟩ := ar r hr
    unfold placeRing
    by_cases e : r = 0
    · subst e
      rw [a1] at h1
      have h1 : ¬ areaUp (rg rs 0) (rg rs 0).length ≤ 0 := by simpa using h1
      rw [decide_eq_true (by omega)]
      exact Bool.and_eq_true_iff.2 ⟨rfl, List.all_eq_true.2 fun k _ => by unfold placeK; simp⟩
    · unfold plrR at hr2
      rw [beq_eq_false_iff_ne.2 e, Bool.false_or, a1] at hr2
      obtain ⟨b1, b2⟩ := Bool.and_eq_true_iff.1 hr2
      have b1 : ¬ areaUp (rg rs r) (rg rs r).length ≥ 0 := by simpa using b1
      rw [decide_eq_false (by omega), beq_eq_false_iff_ne.2 e, ← all r hr e, b2]; rfl
  · intro h
    have pr : ∀ r, r < rs.length → placeRing rs r = true := fun r hr => List.all_eq_true.1 h r (List.mem_range.2 hr)
    unfold plcR
    have h0 := pr 0 hpos
    unfold placeRing at h0
    obtain ⟨c1, _⟩ := Bool.and_eq_true_iff.1 h0
    obtain ⟨a1, a2⟩ := ar 0 hpos
    have c2 : areaUp (rg rs 0) (rg rs 0).length > 0 := by simpa using c1
    rw [a1, decide_eq_false (by omega), Bool.not_false, Bool.true_and]
    refine List.all_eq_true.2 fun r hr => ?_
    have hr := List.mem_range.1 hr
    unfold plrR
    by_cases e : r = 0
    · subst e; rfl
    · have h1 := pr r hr
      unfold placeRing at h1
      obtain ⟨d1, d2⟩ := Bool.and_eq_true_iff.1 h1
      obtain ⟨a1, a2⟩ := ar r hr
      rw [beq_eq_false_iff_ne.2 e, beq_iff_eq, decide_eq_false_iff_not] at d1
      rw [a1, decide_eq_false (by omega), all r hr e, d2]
      simp
theorem chkR_eq (rs : List (List Sd)) : chkR rs = chk rs := by
  unfold chkR chk
  by_cases hN : rs.any (fun l => l.length == 0) = true
  · rw [if_pos hN, if_pos hN]
  rw [if_neg hN, if_neg hN]
  by_cases h0 : tot rs = 0
  · rw [if_pos h0, if_pos h0]
  rw [if_neg h0, if_neg h0]
  by_cases h1 : tot rs > 24
  · rw [if_pos h1, if_pos h1]
  rw [if_neg h1, if_neg h1]
  by_cases h2 : rs.flatten.any (fun s => !rgd s) = true
  · rw [if_pos h2, if_pos h2]
  rw [if_neg h2, if_neg h2]
  have hg : ∀ l ∈ rs, ∀ s ∈ l, rgd s = true := any_rgd (by simpa using h2)
  have hin : allR rs := fun l hl s hs => rgd_inR (hg l hl s hs)
  have e3 : rs.any (fun l => !shpR l) = rs.any (fun l => !shp l) := by
    rw [Bool.eq_iff_iff, List.any_eq_true, List.any_eq_true]
    constructor <;> rintro ⟨l, hl, h⟩
    · exact ⟨l, hl, by rw [← shp_eq (hin l hl)]; exact h⟩
    · exact ⟨l, hl, by rw [shp_eq (hin l hl)]; exact h⟩
  rw [e3]
  by_cases h3 : rs.any (fun l => !shp l) = true
  · rw [if_pos h3, if_pos h3]
  rw [if_neg h3, if_neg h3]
  have hs : ∀ l ∈ rs, shp l = true := fun l hl => by
    cases h : shp l with
    | true => rfl
    | false => exact absurd (List.any_eq_true.2 ⟨l, hl, by rw [h]; rfl⟩) h3
  by_cases h4 : crs rs = true
  · rw [if_pos h4, if_pos h4]
  rw [if_neg h4, if_neg h4]
  have hpos : 0 < rs.length := by
    cases rs with
    | nil => exact absurd rfl h0
    | cons x rs => simp
  rw [plc_eq hin hs (by simpa using h4) (by omega) hpos, jnd_eq hin hs]
end Go.Proofs.YtnpfkmbcejgnjaaGreatDoor
namespace Go.Proofs.YtnpfkmbcejgnjaaGreatDoor
open Go Go.RowKit Go.Am
set_option maxRecDepth 10000
-- BOXES 1
theorem refChk_gives (W : World) (p : Option Addr) (cap : Nat) (rs : List (List Sd)) (hn : rs.length < 4611686018427387904) (hT : tot rs < 1099511627776) (hR : RingsP W p rs) :
    CallsR Tryz.prog 24 #[planV p rs.length cap] W (fun _ : Unit => .int .i64 (chk rs)) (fun _ => True) (fun _ => []) :=
  (checkR_gives W p cap rs hn hT hR).cast (by rw [chkR_eq])
end Go.Proofs.YtnpfkmbcejgnjaaGreatDoor
namespace Go.Proofs.YtnpfkmbcejgnjaaGreatDoor
open Go Go.RowKit Go.Am
set_option maxRecDepth 10000
-- BOXES 3
-- BOXIDX t1=0 t2=1 t8=3
section
variable {r : Option Nat} {n : Nat} {P : Program} {W0 : World} {N : Nat} {D : List Deferred} {ops : List Oper} {Q : Exit → Act → World → Prop} {o : Oper} {rest : List Oper} {env : Env} {bxs : List Bx}
/-- An append that has no room. -/
theorem wl_appendFresh {d : Nat} {t e : TypeId} {size bytes : Nat} {z : Value} (hty : VecTy P t e size bytes z) {c : Call} {s x : Operand} {n' m cap cp : Nat} {b a : Addr} (tt : Nat) (olds news ys : List Value)
    (hg : guardE ops N env o = some true) (hd : o.dst = some d) (ho : o.op = .call c) (hc : c.callee = .builtin .append) (ha : c.args = #[s, x]) (hat : c.argTypes = #[t, t])
    (hs : evO N env s = some (.slice (some b) n' cap)) (hx : evO N env x = some (.slice (some a) m cp))
    (hlo : olds.length = n' * size) (holds : ∀ W, Hp W0 bxs W → ∀ j u, olds[j]? = some u → W.cell? (b.add j) = some u)
    (hl : news.length = m * size) (hnews : ∀ W, Hp W0 bxs W → ∀ j u, news[j]? = some u → W.cell? (a.add j) = some u)
    (htt : n' + m = tt) (hys : olds ++ news = ys) (hgr : cap < n' + m) (h63 : n' + m ≤ maxLen) (hbytes : (n' + m) * bytes ≤ 140737488355328)
    (h : ∀ (g cap' : Nat) (junk : List Value), (⟨some g, cap', junk⟩ : Vec).OK size tt ys → WL r n P N D ops Q rest ((d, .slice (some ⟨g, 0, none⟩) tt cap') :: env) (Hp W0 (bxs ++ [⟨g, e, ys ++ junk, true, none⟩]))) : WL r n P N D ops Q (o :: rest) env (Hp W0 bxs) := .mk fun act W h2 h3 hp => by
  refine wl_step hg h2 (fun c e => by rw [ho] at e; cases e) ?_
  obtain ⟨i, hi, hz, hsz, hby⟩ := hty.hi
  subst hsz
  subst hby
  subst htt
  subst hys
  have hr := run_append_grow (P := P) W t o.type e i z hty.ht hi hz b n' cap olds hlo (holds W hp) a m cp news hl (hnews W hp) hgr (by simp only [maxLen] at h63; omega) (growslice_fits hgr hbytes)
  have e1 : c.args.map (ov env act).eval = #[.slice (some b) n' cap, .slice (some a) m cp] := by rw [ha]; simp [evO_sound h2 _ _ hs, evO_sound h2 _ _ hx]
  obtain ⟨g, hgc⟩ : ∃ g, grownCap W (n' + m) cap e = g := ⟨_, rfl⟩
  have hge : n' + m ≤ g := hgc ▸ grownCap_ge W (n' + m) cap e
  have hle : g ≤ maxLen := hgc ▸ grownCap_le_maxLen W (n' + m) cap e h63
  rw [hgc] at hr
  have : (execOp (ov env act).eval o).run P W = .ok (.value (.slice (some ⟨W.heap.size, 0, none⟩) (n' + m) g)) (W.drew.alloc (.cells (olds.toArray ++ news.toArray ++ Builtin.zeroCells z.cells (g - (n' + m))) e)) := by
    simp only [execOp, ho, resolve, hc, invoke, builtin, e1, hat, Sem.run_bind, Sem.run_pure, Result.andThen_ok, hr]
  rw [this]
  simp only [Oper.uponIn, hd]
  have hp2 : Hp W0 bxs W.drew := hp.grow ⟨rfl, rfl, rfl, Nat.le_refl _, fun _ _ => rfl⟩
  have hlen : (olds ++ news).length = (n' + m) * i.size := by rw [List.length_append, hlo, hl, Nat.add_mul]
  refine (h W.heap.size g (repL z.cells.toList (g - (n' + m))) ⟨hlen, fun h => (by cases h), fun _ => ⟨hge, hle, ?_⟩⟩).out act _ h2 h3 ?_
  · have h5 : (repL z.cells.toList (g - (n' + m))).length = (g - (n' + m)) * i.size := by
      rw [← zeroCells_toList, Array.length_toList, size_zeroCells, hty.hzs]
    rw [hlen, h5, ← Nat.add_mul]
    show (n' + m + (g - (n' + m))) * i.size = g * i.size
    rw [Nat.add_sub_cancel' hge]
  have hp3 := hp2.alloc e ((olds ++ news) ++ repL z.cells.toList (g - (n' + m)))
  have e2 : (olds.toArray ++ news.toArray ++ Builtin.zeroCells z.cells (g - (n' + m))) = ((olds ++ news) ++ repL z.cells.toList (g - (n' + m))).toArray := by
    apply Array.toList_inj.1
    simp [zeroCells_toList]
  rw [e2]
  exact hp3
end
theorem ci_cells {l : List Int} {k g off : Nat} {e : TypeId} {junk : List Value} {W0 W : World} {bxs : List Bx} (hp : Hp W0 bxs W) (i : Nat) (hi : nth bxs i = some ⟨g, e, ci l ++ junk, true, none⟩) (ho : k < l.length → off = k) {j : Nat} {u : Value} (hu : (ci (l.drop k))[j]? = some u) : W.cell? ((⟨g, off, none⟩ : Addr).add j) = some u := by
  have hlt := (List.getElem?_eq_some_iff.1 hu).1
  rw [List.length_map, List.length_drop] at hlt
  rw [ho (by omega), Addr.add_none]
  have h := (RowAt.of_bx hp i hi rfl).get (k + j) u (by
    rw [List.getElem?_append_left (by rw [List.length_map]; omega), ← hu, show ci (l.drop k) = (ci l).drop k from List.map_drop .., List.getElem?_drop])
  rw [Nat.zero_add] at h
  exact h
theorem vec_cells {xs junk : List Value} {g : Nat} {e : TypeId} {W0 W : World} {bxs : List Bx} (hp : Hp W0 bxs W) (i : Nat) (hi : nth bxs i = some ⟨g, e, xs ++ junk, true, none⟩) {j : Nat} {u : Value} (hu : xs[j]? = some u) : W.cell? ((⟨g, 0, none⟩ : Addr).add j) = some u := by
  have hlt := (List.getElem?_eq_some_iff.1 hu).1
  rw [Addr.add_none]
  exact (RowAt.of_bx hp i hi rfl).get j u (by rw [List.getElem?_append_left hlt]; exact hu)
theorem ci_cellsT {l : List Int} {k g : Nat} {e : TypeId} {junk : List Value} {W0 W : World} {bxs : List Bx} (hp : Hp W0 bxs W) (i : Nat) (hi : nth bxs i = some ⟨g, e, ci l ++ junk, true, none⟩) {j : Nat} {u : Value} (hu : (ci (l.take k))[j]? = some u) : W.cell? ((⟨g, 0, none⟩ : Addr).add j) = some u := by
  have hlt := (List.getElem?_eq_some_iff.1 hu).1
  rw [List.length_map, List.length_take] at hlt
  rw [Addr.add_none]
  have h := (RowAt.of_bx hp i hi rfl).get j u (by
    rw [List.getElem?_append_left (by rw [List.length_map]; omega), ← hu, show ci (l.take k) = (ci l).take k from List.map_take .., List.getElem?_take_of_lt (by omega)])
  exact h
/-- The order of the rings, one more. -/
theorem oN_ins {rs : List (List Sd)} {r k : Nat} (h : (r = 1 ∧ k = 1) ∨ (r = 2 ∧ ((k = 2 ∧ befB (sd (c1 rs 2) 0) (sd (c1 rs 1) 0) = false) ∨ (k = 1 ∧ befB (sd (c1 rs 2) 0) (sd (c1 rs 1) 0) = true)))) : oN rs (r + 1) = (oN rs r).take k ++ ((r : Nat) : Int) :: (oN rs r).drop k := by
  rcases h with ⟨rfl, rfl⟩ | ⟨rfl, ⟨rfl, h⟩ | ⟨rfl, h⟩⟩
  · rfl
  · unfold oN ordN
    rw [h]; rfl
  · unfold oN ordN
    rw [h]; rfl
theorem oN_len {rs : List (List Sd)} {r : Nat} (h : r = 1 ∨ r = 2 ∨ r = 3) : (oN rs r).length = r := by unfold oN; rw [List.length_map, ordN_len h]
theorem oN_get {rs : List (List Sd)} {n i : Nat} (h : n = 1 ∨ n = 2 ∨ n = 3) (hi : i < n) : ∃ k : Nat, k < n ∧ (ordN rs n)[i]? = some k ∧ (oN rs n).getD i 0 = (k : Int) := by
  have hl := ordN_len (rs := rs) h
  refine ⟨(ordN rs n)[i]'(by omega), (ordN_mem h _).2 (List.getElem_mem _), List.getElem?_eq_getElem _, ?_⟩
  unfold oN
  rw [List.getD_eq_getElem?_getD, List.getElem?_map, List.getElem?_eq_getElem (by omega)]; rfl
theorem pre_le {rs : List (List Sd)} (h12 : tot rs ≤ 12) (n : Nat) : ∀ k, pre rs (ordN rs n) k ≤ 12 * k
  | 0 => Nat.le_refl _
  | k + 1 => by
    have ih := pre_le h12 n k
    cases hk : (ordN rs n)[k]? with
    | none =>
      have e : pre rs (ordN rs n) (k + 1) = pre rs (ordN rs n) k := by unfold pre; rw [List.take_add_one, hk]; simp
      omega
    | some r =>
      rw [pre_succ hk]
      have : (rg rs r).length ≤ tot rs := by
        by_cases hr : r < rs.length
        · exact len_le_tot (List.mem_of_getElem? (rg_get hr))
        · have e : rg rs r = [] := by unfold rg; rw [List.getD_eq_getElem?_getD, List.getElem?_eq_none (by omega)]; rfl
          rw [e]; exact Nat.zero_le _
      omega
theorem can_take {rs : List (List Sd)} (h : rs.length = 1 ∨ rs.length = 2 ∨ rs.length = 3) {i k : Nat} (hk : (ordN rs rs.length)[i]? = some k) : (canR rs).take (i + 1) = (canR rs).take i ++ [c1 rs k] := by
  rw [canR_ord h, List.take_add_one, List.getElem?_map, hk]; rfl
set_option maxHeartbeats 16000000 in
theorem canonR_ok (W : World) (p : Option Addr) (cap : Nat) (rs : List (List Sd)) (hn : rs.length < 1099511627776) (hR : RingsP W p rs) (hroom : RoomP W p rs.length) (hc : chk rs = 0) (h12 : tot rs ≤ 12) :
    CallsR Tryz.prog 43 #[planV p rs.length cap] W (fun x : Vec × Made × Vec => .tuple #[.agg #[x.1.val (canR rs).length], x.2.2.val (tot rs), .int .i64 0]) (fun x => (MadeOK x.2.1 (canR rs) ∧ x.1.OK 1 (canR rs).length (rowCells x.2.1)) ∧ x.2.2.OK 1 (tot rs) (ci (numsOf rs))) (fun x => [x.1.bx 27 (rowCells x.2.1), mkB x.2.1, x.2.2.bx 3 (ci (numsOf rs))]) := by
  obtain ⟨hne, hT24, hne0⟩ := chk_ne hc
  have h3 := rings3 hc h12
  have hr0 : 0 < rs.length := by omega
  refine calls_enter (args := [planV p rs.length cap]) Tryz.func43 rfl rfl rfl ?_
  refine zA ?_
  refine zB ?_
  (refine wl_box rfl rfl rfl rfl ?_; intro)
  (refine wl_allocZ Tryz.hZ rfl rfl rfl rfl ?_; intro)
  iterate 2 refine wl_pure Tryz.hT rfl rfl rfl ?_
  refine wl_nil ?_
  rename_i b1 b2
  refine zE ?_
  iterate 2 refine zA ?_
  refine zB ?_
  refine wl_loadBx 0 Tryz.hT rfl rfl rfl rfl rfl rfl rfl rfl ?_
  refine wl_call1 rfl rfl rfl rfl rfl rfl (by kernel_rfl) (fun W hp => (refChk_gives W p cap rs (by omega) (by omega) (hR.hp hp)).cast (by rw [hc])) ?_
  refine wl_pure Tryz.hT rfl rfl rfl ?_
  refine wl_nil ?_
  refine zE ?_
  refine zS rfl ?_
  refine zI ?_
  refine zE ?_
  refine zA ?_
  refine zB ?_
  (refine wl_buildRowZ Tryz.hZ Tryz.hT rfl rfl rfl rfl rfl rfl rfl rfl rfl rfl rfl ?_; intro)
  refine wl_pure Tryz.hT rfl rfl rfl ?_
  refine wl_nil ?_
  rename_i b23
  refine zE ?_
  iterate 2 refine zA ?_
  refine zB ?_
  refine wl_pure Tryz.hT rfl rfl rfl ?_
  refine wl_nil ?_
  refine zE ?_
  refine zH ?_
  refine wc_loop (X := Nat × Nat × Nat × List Value) (fun x => [(1, .pointer (some ⟨b1, 0, none⟩)), (2, .pointer (some ⟨b2, 0, none⟩)), (5, .slice (some ⟨x.2.1, 0, none⟩) x.1 x.2.2.1), (6, .int .i64 (x.1 : Nat))])
    (fun x => [⟨b1, 24, [slv p rs.length cap], true, none⟩, ⟨b2, 24, [slv none 0 0], true, none⟩, ⟨x.2.1, 3, ci (oN rs x.1) ++ x.2.2.2, true, none⟩])
    (fun x => (1 ≤ x.1 ∧ x.1 ≤ rs.length) ∧ (⟨some x.2.1, x.2.2.1, x.2.2.2⟩ : Vec).OK 1 x.1 (ci (oN rs x.1))) (fun x => rs.length - x.1) (1, b23, 1, []) ⟨⟨Nat.le_refl _, hr0⟩, ⟨rfl, fun h => (by cases h), fun _ => ⟨Nat.le_refl _, (show (1 : Nat) ≤ maxLen by simp only [maxLen]; omega), rfl⟩⟩⟩ ⟨rfl, rfl, rfl, rfl, trivial⟩ [] rfl ?_
  rintro ⟨r, g, cV, jV⟩ ⟨⟨hr1, hr⟩, hV⟩
  change 1 ≤ r at hr1
  change r ≤ rs.length at hr
  change (⟨some g, cV, jV⟩ : Vec).OK 1 r (ci (oN rs r)) at hV
  have hV3 := hV.cap (by simp)
  simp only at hV3
  obtain ⟨hVa, hVb, hVc⟩ := hV3
  simp only [maxLen] at hVb
  iterate 2 refine zA ?_
  refine zB ?_
  iterate 2 refine wl_pure Tryz.hT rfl rfl rfl ?_
  refine wl_loadBx 0 Tryz.hT rfl rfl rfl rfl rfl rfl rfl rfl ?_
  iterate 2 refine wl_pure Tryz.hT rfl rfl rfl ?_
  refine wl_nil ?_
  refine zE ?_
  refine wc_cond rfl (fun h => ?_) (fun h => ?_)
  · have hr : r < rs.length := by have h' : decide ((r : Int) < (rs.length : Nat)) = true := h; rw [decide_eq_true_iff] at h'; omega
    clear h
    have hr12 : r = 1 ∨ r = 2 := by omega
    have hol := oN_len (rs := rs) (r := r) (by omega)
    obtain ⟨b, off, rfl, hrow⟩ := hR.row hr
    refine zI ?_
    refine zE ?_
    refine zA ?_
    refine zH ?_
    refine zA ?_
    refine zB ?_
    iterate 3 refine wl_pure Tryz.hT rfl rfl rfl ?_
    refine wl_nil ?_
    refine ne_then ?_
    refine wc_cut (X := Nat) (fun k => [(1, .pointer (some ⟨b1, 0, none⟩)), (2, .pointer (some ⟨b2, 0, none⟩)), (5, .slice (some ⟨g, 0, none⟩) r cV), (6, .int .i64 (r : Nat)), (7, .int .i64 (k : Nat))])
      (fun _ => [⟨b1, 24, [slv (some ⟨b, off, none⟩) rs.length cap], true, none⟩, ⟨b2, 24, [slv none 0 0], true, none⟩, ⟨g, 3, ci (oN rs r) ++ jV, true, none⟩])
      (fun k => k ≤ r ∧ oN rs (r + 1) = (oN rs r).take k ++ ((r : Nat) : Int) :: (oN rs r).drop k) ?_ ?_
    · refine zH ?_
      refine wc_loop (X := Nat) (fun k => [(1, .pointer (some ⟨b1, 0, none⟩)), (2, .pointer (some ⟨b2, 0, none⟩)), (5, .slice (some ⟨g, 0, none⟩) r cV), (6, .int .i64 (r : Nat)), (7, .int .i64 (k : Nat))])
        (fun _ => [⟨b1, 24, [slv (some ⟨b, off, none⟩) rs.length cap], true, none⟩, ⟨b2, 24, [slv none 0 0], true, none⟩, ⟨g, 3, ci (oN rs r) ++ jV, true, none⟩])
        (fun k => (r = 1 ∧ k = 1) ∨ (r = 2 ∧ (k = 2 ∨ (k = 1 ∧ befB (sd (c1 rs 2) 0) (sd (c1 rs 1) 0) = true)))) (fun k => k) r (by omega) ⟨rfl, rfl, rfl, rfl, rfl, trivial⟩ [] rfl ?_
      intro k hk
      by_cases hk1 : k = 1
      · subst hk1
        iterate 2 refine zA ?_
        refine zT Tryz.mixed (by kernel_rfl) ?_
        iterate 2 refine wq_pure Tryz.hT rfl rfl rfl ?_
        refine wq_upd 34 (.bool false) rfl rfl ?_
        refine wq_pure Tryz.hT rfl rfl rfl ?_
        iterate 35 refine wq_skip rfl rfl ?_
        refine wq_pure Tryz.hT rfl rfl rfl ?_
        refine wq_nil ?_
        refine wl_nil ?_
        refine zE ?_
        refine zS rfl ?_
        refine zJ ?_
        iterate 2 refine zK ?_
        refine zL ?_
        exact ne_cutP 1 ⟨hr1, oN_ins (by rcases hk with ⟨h1, _⟩ | ⟨h1, h2 | ⟨_, h2⟩⟩; exact .inl ⟨h1, rfl⟩; omega; exact .inr ⟨h1, .inr ⟨rfl, h2⟩⟩)⟩ ⟨rfl, rfl, rfl, rfl, rfl, trivial⟩ [0, 1, 2] (by decide) rfl
      · have h22 : r = 2 ∧ k = 2 := by rcases hk with ⟨_, h⟩ | ⟨h1, h2 | ⟨h2, _⟩⟩ <;> omega
        obtain ⟨rfl, rfl⟩ := h22
        obtain ⟨q2, cq2, e21, hR2⟩ := hrow 2 hr
        obtain ⟨q1, cq1, e11, hR1⟩ := hrow 1 (by omega)
        have hl2 : 0 < (rg rs 2).length := Nat.lt_of_le_of_lt (Nat.zero_le _) (at_lt hc hr)
        have hl1 : 0 < (rg rs 1).length := Nat.lt_of_le_of_lt (Nat.zero_le _) (at_lt hc (show 1 < rs.length by omega))
        have ht2 := len_le_tot (List.mem_of_getElem? (rg_get hr))
        have ht1 := len_le_tot (List.mem_of_getElem? (rg_get (show 1 < rs.length by omega)))
        have hat2 := at_lt hc hr
        have hat1 := at_lt hc (show 1 < rs.length by omega)
        obtain ⟨bq2, oq2, rfl, hs2⟩ := hR2.row hl2
        obtain ⟨bq1, oq1, rfl, hs1⟩ := hR1.row hl1
        iterate 2 refine zA ?_
        refine zT Tryz.mixed (by kernel_rfl) ?_
        iterate 2 refine wq_pure Tryz.hT rfl rfl rfl ?_
        refine wq_upd 34 (.bool true) rfl rfl ?_
        iterate 2 refine wq_pure Tryz.hT rfl rfl rfl ?_
        refine wq_loadBx 0 Tryz.hT rfl rfl rfl rfl rfl rfl rfl rfl ?_
        refine wq_pure Tryz.hT rfl rfl rfl ?_
        refine wq_indexAddr Tryz.hT rfl rfl rfl rfl rfl rfl rfl (by omega) (by omega) ?_
        refine wq_load rfl rfl rfl rfl (fun W hp => RowAt.load 0 Tryz.hT rfl ((fun W hp => e21.hp hp) W hp) rfl) ?_
        refine wq_pure Tryz.hT rfl rfl rfl ?_
        refine wq_loadBx 0 Tryz.hT rfl rfl rfl rfl rfl rfl rfl rfl ?_
        refine wq_pure Tryz.hT rfl rfl rfl ?_
        refine wq_indexAddr Tryz.hT rfl rfl rfl rfl rfl rfl rfl (by omega) (by omega) ?_
        refine wq_load rfl rfl rfl rfl (fun W hp => RowAt.load 0 Tryz.hT rfl ((fun W hp => e21.hp hp) W hp) rfl) ?_
        refine wq_call1 (capt := []) rfl rfl rfl rfl rfl rfl (by kernel_rfl) (fun W hp => first_gives W (some ⟨bq2, oq2, none⟩) cq2 (rg rs 2) hl2 (by omega) (hR2.hp hp)) ?_
        refine wq_indexAddr Tryz.hT rfl rfl rfl rfl rfl rfl rfl (by omega) (by omega) ?_
        refine wq_load rfl rfl rfl rfl (fun W hp => RowAt.load 0 Tryz.hT rfl ((fun W hp => (hs2 (atS (rg rs 2)) hat2).hp hp) W hp) rfl) ?_
        refine wq_pure Tryz.hT rfl rfl rfl ?_
        refine wq_loadBx 0 Tryz.hT rfl rfl rfl rfl rfl rfl rfl rfl ?_
        iterate 3 refine wq_pure Tryz.hT rfl rfl rfl ?_
        refine wq_upd 53 (.int .i64 (1 : Nat)) rfl rfl ?_
        refine wq_indexAddr Tryz.hT rfl rfl rfl rfl rfl rfl rfl (by omega) (by omega) ?_
        refine wq_load rfl rfl rfl rfl (fun W hp => RowAt.load 0 Tryz.hT rfl ((fun W hp => ci_at hp 2 rfl (show 1 < 2 by decide)) W hp) rfl) ?_
        refine wq_upd 55 (.int .i64 (1 : Nat)) rfl rfl ?_
        refine wq_indexAddr Tryz.hT rfl rfl rfl rfl rfl rfl rfl (by omega) (by omega) ?_
        refine wq_load rfl rfl rfl rfl (fun W hp => RowAt.load 0 Tryz.hT rfl ((fun W hp => e11.hp hp) W hp) rfl) ?_
        refine wq_pure Tryz.hT rfl rfl rfl ?_
        refine wq_loadBx 0 Tryz.hT rfl rfl rfl rfl rfl rfl rfl rfl ?_
        iterate 3 refine wq_pure Tryz.hT rfl rfl rfl ?_
        refine wq_upd 62 (.int .i64 (1 : Nat)) rfl rfl ?_
        refine wq_indexAddr Tryz.hT rfl rfl rfl rfl rfl rfl rfl (by omega) (by omega) ?_
        refine wq_load rfl rfl rfl rfl (fun W hp => RowAt.load 0 Tryz.hT rfl ((fun W hp => ci_at hp 2 rfl (show 1 < 2 by decide)) W hp) rfl) ?_
        refine wq_upd 64 (.int .i64 (1 : Nat)) rfl rfl ?_
        refine wq_indexAddr Tryz.hT rfl rfl rfl rfl rfl rfl rfl (by omega) (by omega) ?_
        refine wq_load rfl rfl rfl rfl (fun W hp => RowAt.load 0 Tryz.hT rfl ((fun W hp => e11.hp hp) W hp) rfl) ?_
        refine wq_call1 (capt := []) rfl rfl rfl rfl rfl rfl (by kernel_rfl) (fun W hp => first_gives W (some ⟨bq1, oq1, none⟩) cq1 (rg rs 1) hl1 (by omega) (hR1.hp hp)) ?_
        refine wq_indexAddr Tryz.hT rfl rfl rfl rfl rfl rfl rfl (by omega) (by omega) ?_
        refine wq_load rfl rfl rfl rfl (fun W hp => RowAt.load 0 Tryz.hT rfl ((fun W hp => (hs1 (atS (rg rs 1)) hat1).hp hp) W hp) rfl) ?_
        refine wq_call1 (capt := []) rfl rfl rfl rfl rfl rfl (by kernel_rfl) (fun W _ => before_gives (sd (rg rs 2) (atS (rg rs 2))) (sd (rg rs 1) (atS (rg rs 1))) W) ?_
        rw [← c1_first hc hr, ← c1_first hc (show 1 < rs.length by omega)]
        refine wq_pure Tryz.hT rfl rfl rfl ?_
        refine wq_nil ?_
        refine wl_nil ?_
        refine zE ?_
        refine wc_cond rfl (fun hx => ?_) (fun hx => ?_)
        · refine zI ?_
          refine zE ?_
          refine zH ?_
          refine zB ?_
          iterate 3 refine wl_pure Tryz.hT rfl rfl rfl ?_
          refine wl_nil ?_
          refine zN ?_
          exact ne_loop 1 (.inr ⟨rfl, .inr ⟨rfl, hx⟩⟩) (by decide) ⟨rfl, rfl, rfl, rfl, rfl, trivial⟩ [] rfl
        · refine zJ ?_
          iterate 2 refine zK ?_
          refine zL ?_
          exact ne_cutP 2 ⟨Nat.le_refl _, oN_ins (.inr ⟨rfl, .inl ⟨rfl, hx⟩⟩)⟩ ⟨rfl, rfl, rfl, rfl, rfl, trivial⟩ [0, 1, 2] (by decide) rfl
    · rintro k ⟨hk, hord⟩
      simp only
      have hko : k < (oN rs r).length → (if cV = k then 0 else 0 + k * 1) = k := fun h => by rw [if_neg (by omega)]; omega
      refine wc_lateY (X := { x : Nat × Nat × List Value // (⟨some x.1, x.2.1, x.2.2⟩ : Vec).OK 1 (r + 1) (ci (oN rs (r + 1))) }) [true, true, true, true, true, false, true, true, true, false, false, false] (fun x => [(1, .pointer (some ⟨b1, 0, none⟩)), (2, .pointer (some ⟨b2, 0, none⟩)), (5, .slice (some ⟨x.1.1, 0, none⟩) (r + 1) x.1.2.1), (6, .int .i64 (r : Nat))])
        (fun x => [⟨b1, 24, [slv (some ⟨b, off, none⟩) rs.length cap], true, none⟩, ⟨b2, 24, [slv none 0 0], true, none⟩, ⟨x.1.1, 3, ci (oN rs (r + 1)) ++ x.1.2.2, true, none⟩])
        4 [gone, gone, gone] Tryz.mixed (by kernel_rfl) ?_ ?_
      · refine wq_pure Tryz.hT rfl rfl rfl ?_
        iterate 2 refine wq_pure Tryz.hT rfl rfl rfl ?_
        refine wq_slice_hm k k Tryz.hT rfl rfl rfl rfl rfl rfl rfl rfl rfl rfl (Nat.le_refl _) (by omega) ?_
        iterate 3 refine wq_pure Tryz.hT rfl rfl rfl ?_
        refine wq_slice_l k Tryz.hT rfl rfl rfl rfl rfl rfl rfl rfl hk hVa ?_
        refine wq_wt ?_
        refine wt_step rfl rfl (by ((repeat (first | refine Weak.same ?_ | refine Weak.off rfl ?_)); exact trivial)) ?_
        refine RS.cons ?_ (RS.nil)
        refine wl_buildRowZ Tryz.hZ Tryz.hT rfl rfl rfl rfl rfl rfl rfl rfl rfl rfl rfl ?_; intro b79
        refine wl_nil ?_
        refine ne_wt ?_
        refine wt_step rfl rfl (by ((repeat (first | refine Weak.same ?_ | refine Weak.off rfl ?_)); exact trivial)) ?_
        refine RS.cons ?_ (RS.nil)
        refine wl_append (len := 1) (V := ⟨some b79, 1, []⟩) (xs := [.int .i64 (r : Nat)]) (news := ci ((oN rs r).drop k)) 3 Tryz.vec60 rfl rfl rfl rfl rfl rfl rfl rfl rfl ⟨rfl, fun h => (by cases h), fun _ => ⟨Nat.le_refl _, (show (1 : Nat) ≤ maxLen by simp only [maxLen]; omega), rfl⟩⟩ (by rw [List.length_map, List.length_drop, hol, Nat.mul_one]) (fun W1 hp j u hu => ci_cells hp 2 rfl hko hu) (ci_one _) (by simp only [maxLen]; omega) (by omega) ?_; rintro ⟨pI, cI, jI⟩ hI _; obtain ⟨gI, rfl⟩ : ∃ g, pI = some g := by { cases pI with | none => (have := hI.nil rfl; omega) | some g => exact ⟨g, rfl⟩ }
        refine wl_nil ?_
        refine ne_wt ?_
        refine wt_step rfl rfl (by ((repeat (first | refine Weak.same ?_ | refine Weak.off rfl ?_)); exact trivial)) ?_
        refine RS.cons ?_ (RS.nil)
        refine wl_appendFresh Tryz.vec60 (r + 1) (ci ((oN rs r).take k)) ([.int .i64 (r : Nat)] ++ ci ((oN rs r).drop k)) (ci (oN rs (r + 1))) rfl rfl rfl rfl rfl rfl rfl rfl (by rw [List.length_map, List.length_take, hol, Nat.min_eq_left hk, Nat.mul_one]) (fun W1 hp j u hu => ci_cellsT hp 2 rfl hu) hI.len (fun W1 hp j u hu => vec_cells hp 3 rfl hu) (by omega) (by rw [hord]; simp) (by omega) (by simp only [maxLen]; omega) (by omega) ?_; intro gO cO jO hO
        refine wl_nil ?_
        refine ne_wt ?_
        refine wt_step rfl rfl (by ((repeat (first | refine Weak.same ?_ | refine Weak.off rfl ?_)); exact trivial)) ?_
        refine RS.cons ?_ (RS.nil)
        refine wl_pure Tryz.hT rfl rfl rfl ?_
        refine wl_nil ?_
        refine ne_wt ?_
        refine wt_done rfl (by ((repeat (first | refine Weak.same ?_ | refine Weak.off rfl ?_)); exact trivial)) ?_
        exact ne_late ⟨(gO, cO, jO), hO⟩ ⟨rfl, rfl, rfl, rfl, trivial⟩ [0, 1, 4] (by decide) rfl
      rintro ⟨⟨gO, cO, jO⟩, hO⟩
      refine zN ?_
      refine zE ?_
      refine zB ?_
      iterate 3 refine wl_pure Tryz.hT rfl rfl rfl ?_
      refine wl_nil ?_
      exact ne_loop (r + 1, gO, cO, jO) ⟨⟨by omega, hr⟩, hO⟩ (by show rs.length - (r + 1) < rs.length - r; omega) ⟨rfl, rfl, rfl, congrArg (fun z => some (Value.int .i64 z)) (wrap_id (x := (r : Int) + 1) (by omega) (by omega)), trivial⟩ [] rfl
  have e : r = rs.length := by have h' : decide ((r : Int) < (rs.length : Nat)) = false := h; rw [decide_eq_false_iff_not] at h'; omega
  subst e
  clear h
  clear hr
  have hol := oN_len (rs := rs) (r := rs.length) (by omega)
  have hcl : (canR rs).length = rs.length := by rw [canR_ord h3, List.length_map, ordN_len h3]
  refine zJ ?_
  iterate 2 refine zK ?_
  refine zL ?_
  refine zE ?_
  refine zA ?_
  refine zB ?_
  (refine wl_allocZ Tryz.hZ rfl rfl rfl rfl ?_; intro)
  refine wl_nil ?_
  rename_i b8
  refine zE ?_
  refine zA ?_
  refine zB ?_
  refine wl_pure Tryz.hT rfl rfl rfl ?_
  refine wl_loadBx 0 Tryz.hT rfl rfl rfl rfl rfl rfl rfl rfl ?_
  refine wl_pure Tryz.hT rfl rfl rfl ?_
  refine wl_makeSlice Tryz.vec60 rs.length rfl rfl rfl rfl rfl rfl rfl (by simp only [maxLen]; omega) (by omega) ?_
  intro b9
  rw [repL_ci]
  refine wl_pure Tryz.hT rfl rfl rfl ?_
  refine wl_nil ?_
  refine zE ?_
  refine zA ?_
  refine zB ?_
  refine wl_pure Tryz.hT rfl rfl rfl ?_
  refine wl_nil ?_
  refine zE ?_
  iterate 2 refine zA ?_
  refine zB ?_
  refine wl_pure Tryz.hT rfl rfl rfl ?_
  refine wl_nil ?_
  refine zE ?_
  refine zH ?_
  refine wc_newGone ?_
  refine wc_newGrp ?_
  refine wc_loop (X := Nat × Vec × Made) (fun x => [(1, .pointer (some ⟨b1, 0, none⟩)), (2, .pointer (some ⟨b2, 0, none⟩)), (5, .slice (some ⟨g, 0, none⟩) rs.length cV), (8, .pointer (some ⟨b8, 0, none⟩)), (9, .slice (some ⟨b9, 0, none⟩) rs.length rs.length), (10, .int .i64 (pre rs (ordN rs rs.length) x.1 : Nat)), (11, .int .i64 (x.1 : Nat))])
    (fun x => [⟨b1, 24, [slv p rs.length cap], true, none⟩, ⟨b2, 24, [slv none 0 0], true, none⟩, ⟨g, 3, ci (oN rs rs.length) ++ jV, true, none⟩, ⟨b8, 24, [x.2.1.val x.1], true, none⟩, ⟨b9, 3, ci (fs rs x.1), true, none⟩, x.2.1.bx 27 (rowCells x.2.2), mkB x.2.2])
    (fun x => x.1 ≤ rs.length ∧ MadeOK x.2.2 ((canR rs).take x.1) ∧ x.2.1.OK 1 x.1 (rowCells x.2.2)) (fun x => rs.length - x.1) (0, Vec.empty, []) ⟨Nat.zero_le _, ⟨rfl, fun p hp => by cases hp⟩, Vec.OK.empty 1⟩ ⟨rfl, rfl, rfl, rfl, rfl, rfl, rfl, trivial⟩ [] rfl ?_
  rintro ⟨i, V, mk⟩ ⟨hi, hmk, hVr⟩
  change i ≤ rs.length at hi
  change MadeOK mk ((canR rs).take i) at hmk
  change V.OK 1 i (rowCells mk) at hVr
  iterate 2 refine zA ?_
  refine zB ?_
  iterate 4 refine wl_pure Tryz.hT rfl rfl rfl ?_
  refine wl_nil ?_
  refine zE ?_
  refine wc_cond rfl (fun h => ?_) (fun h => ?_)
  · have hi : i < rs.length := by have h' : decide ((i : Int) < (rs.length : Nat)) = true := h; rw [decide_eq_true_iff] at h'; omega
    clear h
    obtain ⟨k, hkn, hk, hkv⟩ := oN_get (rs := rs) h3 hi
    obtain ⟨b, off, rfl, hrow⟩ := hR.row hi
    obtain ⟨q, cq, hq1, hq2⟩ := hrow k hkn
    have hcq : (rg rs k).length ≤ cq := hroom b off rfl k q _ cq hkn hq1
    have hat := at_lt hc hkn
    have hlk := len_le_tot (List.mem_of_getElem? (rg_get hkn))
    obtain ⟨bq, oq, rfl, hrq⟩ := hq2.row (by omega)
    have hra : RingAt W bq oq (rg rs k) := by
      rcases hq2 with h | ⟨b3, o3, e, h⟩
      · rw [h] at hat; exact absurd hat (Nat.not_lt_zero _)
      · cases e; exact h
    obtain ⟨t, htm⟩ : ∃ t, t = atS (rg rs k) := ⟨_, rfl⟩
    rw [← htm] at hat
    have hc1 : c1 rs k = (rg rs k).drop t ++ (rg rs k).take t := by rw [htm]; rfl
    have hcl1 : (c1 rs k).length = (rg rs k).length := rot_len ..
    have hple := pre_le h12 rs.length i
    refine zI ?_
    refine zE ?_
    refine zA ?_
    refine zH ?_
    refine zA ?_
    refine zT Tryz.mixed (by kernel_rfl) ?_
    refine wq_pure Tryz.hT rfl rfl rfl ?_
    refine wq_loadBx 0 Tryz.hT rfl rfl rfl rfl rfl rfl rfl rfl ?_
    iterate 2 refine wq_pure Tryz.hT rfl rfl rfl ?_
    refine wq_indexAddr Tryz.hT rfl rfl rfl rfl rfl rfl rfl (by omega) (by omega) ?_
    refine wq_load rfl rfl rfl rfl (fun W hp => RowAt.load 0 Tryz.hT rfl ((fun W hp => ci_at hp 2 rfl (by rw [hol]; exact hi)) W hp) rfl) ?_
    refine wq_upd 100 (.int .i64 (k : Nat)) rfl (congrArg (Value.int .i64) hkv) ?_
    refine wq_indexAddr Tryz.hT rfl rfl rfl rfl rfl rfl rfl (by omega) (by omega) ?_
    refine wq_load rfl rfl rfl rfl (fun W hp => RowAt.load 0 Tryz.hT rfl ((fun W hp => hq1.hp hp) W hp) rfl) ?_
    refine wq_pure Tryz.hT rfl rfl rfl ?_
    refine wq_nil ?_
    refine wl_nil ?_
    refine zE ?_
    refine zA ?_
    refine zB ?_
    refine wl_pure Tryz.hT rfl rfl rfl ?_
    refine wl_call1 rfl rfl rfl rfl rfl rfl (by kernel_rfl) (fun W hp => (first_gives W (some ⟨bq, oq, none⟩) cq (rg rs k) (by omega) (by omega) (hq2.hp hp)).cast (congrArg (fun n : Nat => Value.int .i64 n) htm.symm)) ?_
    refine wl_pure Tryz.hT rfl rfl rfl ?_
    refine wl_nil ?_
    refine zE ?_
    repeat refine wc_seq ?_
    refine wc_lateY (X := { x : (Nat × Nat × List Value) × (Nat × Nat × List Value) // (⟨some x.1.1, x.1.2.1, x.1.2.2⟩ : Vec).OK 1 (i + 1) (rowCells (mk ++ [((⟨some x.2.1, x.2.2.1, x.2.2.2⟩ : Vec), c1 rs k)])) ∧ (⟨some x.2.1, x.2.2.1, x.2.2.2⟩ : Vec).OK 7 (c1 rs k).length (cellsOf (c1 rs k)) }) [true, true, false, true, true, true, false, true, true, true, false, false, false, false, false]
      (fun x => [(1, .pointer (some ⟨b1, 0, none⟩)), (2, .pointer (some ⟨b2, 0, none⟩)), (5, .slice (some ⟨g, 0, none⟩) rs.length cV), (8, .pointer (some ⟨b8, 0, none⟩)), (9, .slice (some ⟨b9, 0, none⟩) rs.length rs.length), (10, .int .i64 (pre rs (ordN rs rs.length) i : Nat)), (11, .int .i64 (i : Nat)), (12, slv (some ⟨bq, oq, none⟩) (rg rs k).length cq)])
      (fun x => [⟨b1, 24, [slv (some ⟨b, off, none⟩) rs.length cap], true, none⟩, ⟨b2, 24, [slv none 0 0], true, none⟩, ⟨g, 3, ci (oN rs rs.length) ++ jV, true, none⟩, ⟨b8, 24, [.slice (some ⟨x.1.1.1, 0, none⟩) (i + 1) x.1.1.2.1], true, none⟩, ⟨b9, 3, ci (fs rs i), true, none⟩, ⟨x.1.1.1, 27, rowCells (mk ++ [((⟨some x.1.2.1, x.1.2.2.1, x.1.2.2.2⟩ : Vec), c1 rs k)]) ++ x.1.1.2.2, true, none⟩, mkB mk, ⟨x.1.2.1, 42, cellsOf (c1 rs k) ++ x.1.2.2.2, true, none⟩])
      7 [gone, gone, gone, ⟨b8, 24, [V.val i], true, none⟩, gone, gone, gone] Tryz.mixed (by kernel_rfl) ?_ ?_
    · refine wq_pure Tryz.hT rfl rfl rfl ?_
      refine wq_loadBx 3 Tryz.hT rfl rfl rfl rfl rfl rfl rfl rfl ?_
      iterate 2 refine wq_pure Tryz.hT rfl rfl rfl ?_
      refine wq_slice_l t Tryz.hT rfl rfl rfl rfl rfl rfl rfl rfl (by omega) hcq ?_
      iterate 2 refine wq_pure Tryz.hT rfl rfl rfl ?_
      refine wq_slice_h t Tryz.hT rfl rfl rfl rfl rfl rfl rfl rfl (by omega) ?_
      refine wq_wt ?_
      refine wt_step rfl rfl (by ((repeat (first | refine Weak.same ?_ | refine Weak.off rfl ?_)); exact trivial)) ?_
      refine RS.cons ?_ (RS.nil)
      refine wl_buildEmpty Tryz.hT rfl rfl rfl rfl rfl ?_; intro bE
      refine wl_nil ?_
      refine ne_wt ?_
      refine wt_step rfl rfl (by ((repeat (first | refine Weak.same ?_ | refine Weak.off rfl ?_)); exact trivial)) ?_
      refine RS.cons ?_ (RS.nil)
      refine wl_append (len := 0) (V := ⟨some bE, 0, []⟩) (xs := []) (news := cellsOf ((rg rs k).drop t)) 7 Tryz.vec27 rfl rfl rfl rfl rfl rfl rfl rfl rfl ⟨rfl, (fun h => by cases h), fun _ => ⟨Nat.le_refl _, Nat.zero_le _, rfl⟩⟩ (by rw [cellsOf_length, List.length_drop]) (fun W1 hp j u hu => by rw [Addr.add_none, if_neg (show ¬ cq = t by omega)]; exact (ringAt_drop (⟨fun i s hs => (hra.get i s hs).hp hp⟩ : RingAt W1 bq oq (rg rs k)) t).cells j u hu) (cellsOf_one _) (by simp only [maxLen]; omega) (by omega) ?_; rintro ⟨pI, cI, jI⟩ hI _; obtain ⟨gI, rfl⟩ : ∃ g, pI = some g := by { cases pI with | none => (have := hI.nil rfl; omega) | some g => exact ⟨g, rfl⟩ }
      refine wl_nil ?_
      refine ne_wt ?_
      refine wt_step rfl rfl (by ((repeat (first | refine Weak.same ?_ | refine Weak.off rfl ?_)); exact trivial)) ?_
      refine RS.cons ?_ (RS.nil)
      refine wl_append (len := 0 + ((rg rs k).length - t)) (V := ⟨some gI, cI, jI⟩) (xs := [] ++ cellsOf ((rg rs k).drop t)) (news := cellsOf ((rg rs k).take t)) 7 Tryz.vec27 rfl rfl rfl rfl rfl rfl rfl rfl rfl hI (by rw [cellsOf_length, List.length_take, Nat.min_eq_left (by omega)]) (fun W1 hp j u hu => by rw [Addr.add_none]; exact (ringAt_take (⟨fun i s hs => (hra.get i s hs).hp hp⟩ : RingAt W1 bq oq (rg rs k)) t).cells j u hu) (cellsOf_one _) (by simp only [maxLen]; omega) (by omega) ?_; rintro ⟨pJ, cJ, jJ⟩ hJ _; obtain ⟨gJ, rfl⟩ : ∃ g, pJ = some g := by { cases pJ with | none => (have := hJ.nil rfl; omega) | some g => exact ⟨g, rfl⟩ }; have eJ : [] ++ cellsOf ((rg rs k).drop t) ++ cellsOf ((rg rs k).take t) = cellsOf (c1 rs k) := (by rw [List.nil_append, ← cellsOf_append, hc1]); have nJ : 0 + ((rg rs k).length - t) + t = (c1 rs k).length := (by omega); rw [eJ, nJ] at hJ; rw [eJ, nJ]
      refine wl_nil ?_
      refine ne_wt ?_
      refine wt_step rfl rfl (by ((repeat (first | refine Weak.same ?_ | refine Weak.off rfl ?_)); exact trivial)) ?_
      refine RS.cons ?_ (RS.nil)
      refine wl_buildRowZ Tryz.hZ Tryz.hT rfl rfl rfl rfl rfl rfl rfl rfl rfl rfl rfl ?_; intro bR
      refine wl_nil ?_
      refine ne_wt ?_
      refine wt_step rfl rfl (by ((repeat (first | refine Weak.same ?_ | refine Weak.off rfl ?_)); exact trivial)) ?_
      refine RS.cons ?_ (RS.nil)
      refine wl_appendTo (V := V) (xs := rowCells mk) (len := i) 5 8 Tryz.vec22 (i + 1) (rowCells (mk ++ [((⟨some gJ, cJ, jJ⟩ : Vec), c1 rs k)])) rfl rfl rfl rfl rfl rfl rfl rfl rfl rfl rfl hVr rfl rfl rfl (by rw [rowCells_snoc]; rfl) (by simp only [maxLen]; omega) (by omega) rfl ?_; intro g3 c3 j3 hV3
      refine wl_nil ?_
      refine ne_wt ?_
      refine wt_step rfl rfl (by ((repeat (first | refine Weak.same ?_ | refine Weak.off rfl ?_)); exact trivial)) ?_
      refine RS.cons ?_ (RS.nil)
      refine wl_pure Tryz.hT rfl rfl rfl ?_
      refine wl_nil ?_
      refine ne_wt ?_
      refine wt_step rfl rfl (by ((repeat (first | refine Weak.same ?_ | refine Weak.off rfl ?_)); exact trivial)) ?_
      refine RS.cons ?_ (RS.nil)
      refine wl_storeBx 3 Tryz.hT rfl rfl rfl rfl rfl rfl rfl rfl rfl rfl rfl ?_
      refine wl_nil ?_
      refine ne_wt ?_
      refine wt_doneF rfl (by kernel_rfl) ?_
      exact ne_late ⟨((g3, c3, j3), (gJ, cJ, jJ)), hV3, hJ⟩ ⟨rfl, rfl, rfl, rfl, rfl, rfl, rfl, rfl, trivial⟩ [0, 1, 2, 3, 4, 5, 6, 7] (by decide) rfl
    rintro ⟨⟨⟨g3, c3, j3⟩, ⟨gJ, cJ, jJ⟩⟩, hV3, hJ⟩
    refine zE ?_
    refine zA ?_
    refine zB ?_
    iterate 3 refine wl_pure Tryz.hT rfl rfl rfl ?_
    refine wl_indexAddr Tryz.hT rfl rfl rfl rfl rfl rfl rfl (by omega) (by omega) ?_
    refine wl_load rfl rfl rfl rfl (fun W hp => RowAt.load 0 Tryz.hT rfl ((fun W hp => ci_at hp 2 rfl (by rw [hol]; exact hi)) W hp) rfl) ?_
    refine wl_upd 123 (.int .i64 (k : Nat)) rfl (congrArg (Value.int .i64) hkv) ?_
    refine wl_pure Tryz.hT rfl rfl rfl ?_
    refine wl_indexAddr Tryz.hT rfl rfl rfl rfl rfl rfl rfl (by omega) (by omega) ?_
    refine wl_storeTo 4 (ci (fs rs (i + 1))) Tryz.hT rfl rfl rfl rfl rfl rfl rfl rfl rfl rfl (by show 0 + k * 1 + 1 ≤ (ci (fs rs i)).length; rw [List.length_map, fs_len]; omega) (by
      have h1 := set_num (pre rs (ordN rs rs.length) i : Nat) (junk := []) (L := fs rs i) (j := k) (by rw [fs_len]; omega)
      rw [List.append_nil, List.append_nil] at h1
      show splice _ (0 + k * 1) _ = ci ((fs rs i).set ((ordN rs rs.length).getD i 0) (pre rs (ordN rs rs.length) i : Nat))
      rw [Nat.zero_add, show (ordN rs rs.length).getD i 0 = k by rw [List.getD_eq_getElem?_getD, hk]; rfl]
      exact h1) ?_
    refine wl_nil ?_
    refine zE ?_
    refine zB ?_
    iterate 5 refine wl_pure Tryz.hT rfl rfl rfl ?_
    refine wl_nil ?_
    refine zN ?_
    refine zE ?_
    refine zB ?_
    iterate 3 refine wl_pure Tryz.hT rfl rfl rfl ?_
    refine wl_nil ?_
    refine ne_join 6 7 (mkB (mk ++ [((⟨some gJ, cJ, jJ⟩ : Vec), c1 rs k)])) rfl rfl rfl (mkB_snoc mk _ _) ?_
    exact ne_loop (i + 1, ⟨some g3, c3, j3⟩, mk ++ [((⟨some gJ, cJ, jJ⟩ : Vec), c1 rs k)]) ⟨hi, can_take h3 hk ▸ hmk.snoc hJ, hV3⟩ (by show rs.length - (i + 1) < rs.length - i; omega) ⟨rfl, rfl, rfl, rfl, rfl, congrArg (fun z => some (Value.int .i64 z)) ((wrap_id (x := (pre rs (ordN rs rs.length) i : Nat) + ((rg rs k).length : Nat)) (by omega) (by omega)).trans (by rw [pre_succ hk]; rfl)), congrArg (fun z => some (Value.int .i64 z)) (wrap_id (x := (i : Int) + 1) (by omega) (by omega)), trivial⟩ [gone] rfl
  have e : i = rs.length := by have h' : decide ((i : Int) < (rs.length : Nat)) = false := h; rw [decide_eq_false_iff_not] at h'; omega
  subst e
  clear h
  clear hi
  rw [show (canR rs).take rs.length = canR rs from List.take_of_length_le (by omega)] at hmk
  refine zJ ?_
  iterate 2 refine zK ?_
  refine zL ?_
  refine zE ?_
  refine zA ?_
  refine zB ?_
  refine wl_pure Tryz.hT rfl rfl rfl ?_
  refine wl_nil ?_
  refine zE ?_
  iterate 2 refine zA ?_
  refine zB ?_
  refine wl_pure Tryz.hT rfl rfl rfl ?_
  refine wl_nil ?_
  refine zE ?_
  refine zH ?_
  refine wc_newGone ?_
  refine wc_loop (X := Nat × Vec) (fun x => [(1, .pointer (some ⟨b1, 0, none⟩)), (2, .pointer (some ⟨b2, 0, none⟩)), (8, .pointer (some ⟨b8, 0, none⟩)), (9, .slice (some ⟨b9, 0, none⟩) rs.length rs.length), (14, x.2.val (tot (rs.take x.1))), (15, .int .i64 (x.1 : Nat))])
    (fun x => [⟨b1, 24, [slv p rs.length cap], true, none⟩, ⟨b2, 24, [slv none 0 0], true, none⟩, ⟨g, 3, ci (oN rs rs.length) ++ jV, true, none⟩, ⟨b8, 24, [V.val rs.length], true, none⟩, ⟨b9, 3, ci (fs rs rs.length), true, none⟩, V.bx 27 (rowCells mk), mkB mk, x.2.bx 3 (ci ((numsOf rs).take (tot (rs.take x.1))))])
    (fun x => x.1 ≤ rs.length ∧ x.2.OK 1 (tot (rs.take x.1)) (ci ((numsOf rs).take (tot (rs.take x.1))))) (fun x => rs.length - x.1) (0, Vec.empty) ⟨Nat.zero_le _, Vec.OK.empty 1⟩ ⟨rfl, rfl, rfl, rfl, rfl, rfl, trivial⟩ [] rfl ?_
  rintro ⟨i, U⟩ ⟨hi, hU⟩
  change i ≤ rs.length at hi
  change U.OK 1 (tot (rs.take i)) (ci ((numsOf rs).take (tot (rs.take i)))) at hU
  iterate 2 refine zA ?_
  refine zB ?_
  iterate 2 refine wl_pure Tryz.hT rfl rfl rfl ?_
  refine wl_loadBx 0 Tryz.hT rfl rfl rfl rfl rfl rfl rfl rfl ?_
  iterate 2 refine wl_pure Tryz.hT rfl rfl rfl ?_
  refine wl_nil ?_
  refine zE ?_
  refine wc_cond rfl (fun h => ?_) (fun h => ?_)
  · have hi : i < rs.length := by have h' : decide ((i : Int) < (rs.length : Nat)) = true := h; rw [decide_eq_true_iff] at h'; omega
    clear h
    obtain ⟨b, off, rfl, hrow⟩ := hR.row hi
    obtain ⟨q, cq, hq1, hq2⟩ := hrow i hi
    have hat := at_lt hc hi
    have t1 := tot_take_succ hi
    have t2 := tot_take_le rs (i + 1)
    obtain ⟨k, hk, hkv⟩ := fs_at (rs := rs) h3 hi
    have hple := pre_le h12 rs.length k
    have hk3 : k < 3 := by have := (List.getElem?_eq_some_iff.1 hk).1; rw [ordN_len h3] at this; omega
    refine zI ?_
    refine zE ?_
    refine zA ?_
    refine zH ?_
    refine zA ?_
    refine zT Tryz.mixed (by kernel_rfl) ?_
    refine wq_pure Tryz.hT rfl rfl rfl ?_
    refine wq_loadBx 0 Tryz.hT rfl rfl rfl rfl rfl rfl rfl rfl ?_
    refine wq_pure Tryz.hT rfl rfl rfl ?_
    refine wq_indexAddr Tryz.hT rfl rfl rfl rfl rfl rfl rfl (by omega) (by omega) ?_
    refine wq_load rfl rfl rfl rfl (fun W hp => RowAt.load 0 Tryz.hT rfl ((fun W hp => hq1.hp hp) W hp) rfl) ?_
    refine wq_call1 (capt := []) rfl rfl rfl rfl rfl rfl (by kernel_rfl) (fun W hp => first_gives W q cq (rg rs i) (by omega) (by omega) (hq2.hp hp)) ?_
    refine wq_pure Tryz.hT rfl rfl rfl ?_
    refine wq_loadBx 0 Tryz.hT rfl rfl rfl rfl rfl rfl rfl rfl ?_
    refine wq_pure Tryz.hT rfl rfl rfl ?_
    refine wq_indexAddr Tryz.hT rfl rfl rfl rfl rfl rfl rfl (by omega) (by omega) ?_
    refine wq_load rfl rfl rfl rfl (fun W hp => RowAt.load 0 Tryz.hT rfl ((fun W hp => hq1.hp hp) W hp) rfl) ?_
    iterate 3 refine wq_pure Tryz.hT rfl rfl rfl ?_
    refine wq_nil ?_
    refine wl_nil ?_
    refine zE ?_
    refine zA ?_
    refine zB ?_
    refine wl_pure Tryz.hT rfl rfl rfl ?_
    refine wl_nil ?_
    refine zE ?_
    refine zH ?_
    have hnl := numsOf_len rs
    obtain ⟨T, hT⟩ : ∃ T, tot (rs.take i) = T := ⟨_, rfl⟩
    obtain ⟨m, hm⟩ : ∃ m, (rg rs i).length = m := ⟨_, rfl⟩
    rw [hT] at hU t1
    rw [hm] at hat t1
    refine wc_loop (X := Nat × Vec) (fun x => [(1, .pointer (some ⟨b1, 0, none⟩)), (2, .pointer (some ⟨b2, 0, none⟩)), (8, .pointer (some ⟨b8, 0, none⟩)), (9, .slice (some ⟨b9, 0, none⟩) rs.length rs.length), (14, x.2.val (T + x.1)), (15, .int .i64 (i : Nat)), (16, .int .i64 (atS (rg rs i) : Nat)), (17, .int .i64 (m : Nat)), (18, .int .i64 (x.1 : Nat))])
      (fun x => [⟨b1, 24, [slv (some ⟨b, off, none⟩) rs.length cap], true, none⟩, ⟨b2, 24, [slv none 0 0], true, none⟩, ⟨g, 3, ci (oN rs rs.length) ++ jV, true, none⟩, ⟨b8, 24, [V.val rs.length], true, none⟩, ⟨b9, 3, ci (fs rs rs.length), true, none⟩, V.bx 27 (rowCells mk), mkB mk, x.2.bx 3 (ci ((numsOf rs).take (T + x.1)))])
      (fun x => x.1 ≤ m ∧ x.2.OK 1 (T + x.1) (ci ((numsOf rs).take (T + x.1)))) (fun x => m - x.1) (0, U) ⟨Nat.zero_le _, hU⟩ ⟨rfl, rfl, rfl, rfl, by rw [← hT]; rfl, rfl, rfl, by rw [← hm]; rfl, rfl, trivial⟩ [] (by rw [← hT]; rfl) ?_
    rintro ⟨j, U2⟩ ⟨hj, hU2⟩
    change j ≤ m at hj
    change U2.OK 1 (T + j) (ci ((numsOf rs).take (T + j))) at hU2
    iterate 2 refine zA ?_
    refine zB ?_
    iterate 3 refine wl_pure Tryz.hT rfl rfl rfl ?_
    refine wl_nil ?_
    refine zE ?_
    refine wc_cond rfl (fun h => ?_) (fun h => ?_)
    · have hj : j < m := by have h' : decide ((j : Int) < (m : Nat)) = true := h; rw [decide_eq_true_iff] at h'; omega
      clear h
      have hv := num_val hc h3 hk (i := j) (by rw [hm]; exact hj)
      rw [hT, hm] at hv
      have hmd : (j + m - atS (rg rs i)) % m < m := Nat.mod_lt _ (by omega)
      have htj : ci ((numsOf rs).take (T + j)) ++ [.int .i64 ((numsOf rs).getD (T + j) 0)] = ci ((numsOf rs).take (T + (j + 1))) := by
        rw [← Nat.add_assoc, List.take_add_one, List.getD_eq_getElem?_getD, List.getElem?_eq_getElem (by omega)]
        show ci ((numsOf rs).take (T + j)) ++ ci [(numsOf rs)[T + j]'(by omega)] = _
        exact (ci_append _ _).symm
      refine zI ?_
      refine zE ?_
      repeat refine wc_seq ?_
      refine wc_block ?_
      refine wc_lateY (X := { x : Nat × Nat × List Value // (⟨some x.1, x.2.1, x.2.2⟩ : Vec).OK 1 (T + (j + 1)) (ci ((numsOf rs).take (T + (j + 1)))) }) [true, true, true, true, true, true, true, true, true, true, true, true, true, false, false, false] (fun x => [(1, .pointer (some ⟨b1, 0, none⟩)), (2, .pointer (some ⟨b2, 0, none⟩)), (8, .pointer (some ⟨b8, 0, none⟩)), (9, .slice (some ⟨b9, 0, none⟩) rs.length rs.length), (14, .slice (some ⟨x.1.1, 0, none⟩) (T + (j + 1)) x.1.2.1), (15, .int .i64 (i : Nat)), (16, .int .i64 (atS (rg rs i) : Nat)), (17, .int .i64 (m : Nat)), (18, .int .i64 (j : Nat))])
        (fun x => [⟨b1, 24, [slv (some ⟨b, off, none⟩) rs.length cap], true, none⟩, ⟨b2, 24, [slv none 0 0], true, none⟩, ⟨g, 3, ci (oN rs rs.length) ++ jV, true, none⟩, ⟨b8, 24, [V.val rs.length], true, none⟩, ⟨b9, 3, ci (fs rs rs.length), true, none⟩, V.bx 27 (rowCells mk), mkB mk, ⟨x.1.1, 3, ci ((numsOf rs).take (T + (j + 1))) ++ x.1.2.2, true, none⟩])
        3 [gone, gone, gone, gone, ⟨b9, 3, ci (fs rs rs.length), true, none⟩, gone, gone, gone] Tryz.mixed (by kernel_rfl) ?_ ?_
      · refine wq_pure Tryz.hT rfl rfl rfl ?_
        iterate 2 refine wq_pure Tryz.hT rfl rfl rfl ?_
        refine wq_indexAddr Tryz.hT rfl rfl rfl rfl rfl rfl rfl (by omega) (by omega) ?_
        refine wq_load rfl rfl rfl rfl (fun W hp => RowAt.load 0 Tryz.hT rfl ((fun W1 hp => show RowAt W1 b9 (0 + i * 1) [.int .i64 ((fs rs rs.length).getD i 0)] from ci_at (junk := []) hp 4 (by rw [List.append_nil]; rfl) (by rw [fs_len]; exact hi)) W hp) rfl) ?_
        refine wq_upd 158 (.int .i64 (pre rs (ordN rs rs.length) k : Nat)) rfl (congrArg (Value.int .i64) hkv) ?_
        iterate 3 refine wq_pure Tryz.hT rfl rfl rfl ?_
        refine wq_upd 161 (.int .i64 ((j + m : Nat) : Int)) rfl (congrArg (Value.int .i64) (wrap_id (x := (j : Int) + (m : Nat)) (by omega) (by omega))) ?_
        iterate 2 refine wq_pure Tryz.hT rfl rfl rfl ?_
        refine wq_upd 163 (.int .i64 ((j + m - atS (rg rs i) : Nat) : Int)) rfl (congrArg (Value.int .i64) ((wrap_id (x := ((j + m : Nat) : Int) - (atS (rg rs i) : Nat)) (by omega) (by omega)).trans (by omega))) ?_
        refine wq_pure Tryz.hT rfl rfl rfl ?_
        refine wq_rem rfl rfl rfl rfl rfl (by omega) ?_
        refine wq_upd 165 (.int .i64 (((j + m - atS (rg rs i)) % m : Nat) : Int)) rfl rfl ?_
        refine wq_pure Tryz.hT rfl rfl rfl ?_
        refine wq_upd 166 (.int .i64 ((numsOf rs).getD (T + j) 0)) rfl (congrArg (Value.int .i64) ((wrap_id (x := ((pre rs (ordN rs rs.length) k : Nat) : Int) + ((j + m - atS (rg rs i)) % m : Nat)) (by omega) (by omega)).trans hv.symm)) ?_
        refine wq_wt ?_
        refine wt_step rfl rfl (by ((repeat (first | refine Weak.same ?_ | refine Weak.off rfl ?_)); exact trivial)) ?_
        refine RS.cons ?_ (RS.nil)
        (refine wl_buildRowZ Tryz.hZ Tryz.hT rfl rfl rfl rfl rfl rfl rfl rfl rfl rfl rfl ?_; intro)
        refine wl_nil ?_
        refine ne_wt ?_
        refine wt_step rfl rfl (by ((repeat (first | refine Weak.same ?_ | refine Weak.off rfl ?_)); exact trivial)) ?_
        refine RS.cons ?_ (RS.nil)
        refine wl_appendTo (V := U2) (len := T + j) (xs := ci ((numsOf rs).take (T + j))) 7 8 Tryz.vec60 (T + (j + 1)) (ci ((numsOf rs).take (T + (j + 1)))) rfl rfl rfl rfl rfl rfl rfl rfl rfl rfl rfl hU2 rfl rfl rfl htj (by simp only [maxLen]; omega) (by omega) rfl ?_; intro g4 c4 j4 hU3
        refine wl_nil ?_
        refine ne_wt ?_
        refine wt_step rfl rfl (by ((repeat (first | refine Weak.same ?_ | refine Weak.off rfl ?_)); exact trivial)) ?_
        refine RS.cons ?_ (RS.nil)
        refine wl_pure Tryz.hT rfl rfl rfl ?_
        refine wl_nil ?_
        refine ne_wt ?_
        refine wt_done rfl (by ((repeat (first | refine Weak.same ?_ | refine Weak.off rfl ?_)); exact trivial)) ?_
        exact ne_late ⟨(g4, c4, j4), hU3⟩ ⟨rfl, rfl, rfl, rfl, rfl, rfl, rfl, rfl, rfl, trivial⟩ [0, 1, 2, 3, 4, 5, 6, 7] (by decide) rfl
      rintro ⟨⟨g4, c4, j4⟩, hU3⟩
      refine zN ?_
      refine zE ?_
      refine zB ?_
      iterate 3 refine wl_pure Tryz.hT rfl rfl rfl ?_
      refine wl_nil ?_
      exact ne_loop (j + 1, ⟨some g4, c4, j4⟩) ⟨hj, hU3⟩ (by show m - (j + 1) < m - j; omega) ⟨rfl, rfl, rfl, rfl, rfl, rfl, rfl, rfl, congrArg (fun z => some (Value.int .i64 z)) (wrap_id (x := (j : Int) + 1) (by omega) (by omega)), trivial⟩ [] rfl
    have e : j = m := by have h' : decide ((j : Int) < (m : Nat)) = false := h; rw [decide_eq_false_iff_not] at h'; omega
    subst e
    clear h
    refine zJ ?_
    iterate 2 refine zK ?_
    refine zL ?_
    refine zN ?_
    refine zE ?_
    refine zB ?_
    iterate 3 refine wl_pure Tryz.hT rfl rfl rfl ?_
    refine wl_nil ?_
    exact ne_loop (i + 1, U2) ⟨hi, by show U2.OK 1 (tot (rs.take (i + 1))) (ci ((numsOf rs).take (tot (rs.take (i + 1))))); rw [t1]; exact hU2⟩ (by show rs.length - (i + 1) < rs.length - i; omega) ⟨rfl, rfl, rfl, rfl, by show some _ = some (U2.val (tot (rs.take (i + 1)))); rw [t1], congrArg (fun z => some (Value.int .i64 z)) (wrap_id (x := (i : Int) + 1) (by omega) (by omega)), trivial⟩ [] (by show _ = [_, _, _, _, _, _, _, U2.bx 3 (ci ((numsOf rs).take (tot (rs.take (i + 1)))))] ++ []; rw [t1]; rfl)
  have e : i = rs.length := by have h' : decide ((i : Int) < (rs.length : Nat)) = false := h; rw [decide_eq_false_iff_not] at h'; omega
  subst e
  clear h
  rw [List.take_length] at hU
  have hnt : (numsOf rs).take (tot rs) = numsOf rs := List.take_of_length_le (by rw [numsOf_len]; exact Nat.le_refl _)
  obtain ⟨pV, cV2, jV2⟩ := V
  cases pV with
  | none => have := hVr.nil rfl; omega
  | some gV =>
  refine zJ ?_
  iterate 2 refine zK ?_
  refine zL ?_
  refine zE ?_
  refine zA ?_
  refine zB ?_
  refine wl_loadBx 3 Tryz.hT rfl rfl rfl rfl rfl rfl rfl rfl ?_
  refine wl_pure Tryz.hT rfl rfl rfl ?_
  refine wl_storeBx 1 Tryz.hT rfl rfl rfl rfl rfl rfl rfl rfl rfl rfl rfl ?_
  iterate 2 refine wl_pure Tryz.hT rfl rfl rfl ?_
  refine wl_nil ?_
  refine zE ?_
  refine zO ?_
  rw [List.take_length, hnt]
  rw [hnt] at hU
  exact ne_ret3 Tryz.hT rfl (.cell 1 rfl rfl rfl rfl rfl) (.tmp rfl) (.tmp rfl) (⟨some gV, cV2, jV2⟩, mk, U) (by show Value.tuple #[.agg #[.slice (some ⟨gV, 0, none⟩) rs.length cV2], _, _] = .tuple #[.agg #[.slice (some ⟨gV, 0, none⟩) (canR rs).length cV2], _, _]; rw [hcl]) ⟨⟨hmk, by show Vec.OK _ 1 (canR rs).length _; rw [hcl]; exact hVr⟩, hU⟩ fun W hp => (hp.pick [5, 6, 7] (by decide) rfl).own
end Go.Proofs.YtnpfkmbcejgnjaaGreatDoor
namespace Go.Proofs.YtnpfkmbcejgnjaaGreatDoor
open Go Go.RowKit Go.Am
set_option maxRecDepth 10000
-- BOXES 8
def lstF (q : Int × Int) (s : Sd) : Int × Int := (if s.x < q.1 then s.x else q.1, if s.y < q.2 then s.y else q.2)
def lstL (l : List Sd) : Int × Int := l.foldl lstF ((sd l 0).x, (sd l 0).y)
theorem lst_succ (l : List Sd) {k : Nat} (hk : k < l.length) (q : Int × Int) : (l.take (k + 1)).foldl lstF q = lstF ((l.take k).foldl lstF q) (sd l k) := by
  rw [List.take_add_one, sd_get hk, List.foldl_append]; rfl
set_option maxHeartbeats 4000000 in
theorem least_gives (W : World) (p : Option Addr) (cap : Nat) (rs : List (List Sd)) (hn : rs.length < 4611686018427387904) (hT : tot rs < 1099511627776) (h0 : tot rs ≠ 0) (hR : RingsP W p rs) (hne : ∀ l ∈ rs, l ≠ []) :
    CallsR Tryz.prog 72 #[planV p rs.length cap] W (fun _ : Unit => spot (lstL rs.flatten).1 (lstL rs.flatten).2) (fun _ => True) (fun _ => []) := by
  refine calls_enter (args := [planV p rs.length cap]) Tryz.func72 rfl rfl rfl ?_
  refine zA ?_
  refine zB ?_
  (refine wl_box rfl rfl rfl rfl ?_; intro)
  (refine wl_allocZ Tryz.hZ rfl rfl rfl rfl ?_; intro)
  refine wl_nil ?_
  rename_i b1 b2
  refine zE ?_
  refine zA ?_
  refine zB ?_
  refine wl_pure Tryz.hT rfl rfl rfl ?_
  refine wl_loadBx 0 Tryz.hT rfl rfl rfl rfl rfl rfl rfl rfl ?_
  refine wl_call (X := Vec) rfl rfl rfl rfl rfl rfl (by kernel_rfl) (fun W hp => concat_gives W p cap rs hn hT (hR.hp hp) hne) ?_
  intro V hV
  have hlen := flat_len rs
  generalize rs.flatten = l at hlen hV ⊢
  obtain ⟨pv, cv, jv⟩ := V
  have hl0 : 0 < l.length := by omega
  cases pv with
  | none => exact absurd (hV.nil rfl) (by omega)
  | some gv =>
  refine wl_pure Tryz.hT rfl rfl rfl ?_
  refine wl_nil ?_
  refine zE ?_
  refine zA ?_
  refine zB ?_
  refine wl_pure Tryz.hT rfl rfl rfl ?_
  refine wl_indexAddr Tryz.hT rfl rfl rfl rfl rfl rfl rfl (by omega) (by omega) ?_
  refine wl_load rfl rfl rfl rfl (fun W hp => RowAt.load 0 Tryz.hT rfl ((fun W hp => Vec.rowAt (f := Sd.cells) (n := 7) (fun _ => rfl) hp 2 rfl (sd_get hl0)) W hp) rfl) ?_
  refine wl_call1 rfl rfl rfl rfl rfl rfl (by kernel_rfl) (fun W _ => (corner_gives ..)) ?_
  (refine wl_allocZ Tryz.hZ rfl rfl rfl rfl ?_; intro)
  refine wl_storeBx 3 Tryz.hT rfl rfl rfl rfl rfl rfl rfl rfl rfl rfl rfl ?_
  refine wl_nil ?_
  rename_i b4
  refine zE ?_
  iterate 2 refine zA ?_
  refine zB ?_
  iterate 3 refine wl_pure Tryz.hT rfl rfl rfl ?_
  refine wl_nil ?_
  refine zE ?_
  refine zH ?_
  refine wc_loop (X := Nat) (fun k => [(1, .pointer (some ⟨b1, 0, none⟩)), (2, .pointer (some ⟨b2, 0, none⟩)), (4, .pointer (some ⟨b4, 0, none⟩)), (14, slv (some ⟨gv, 0, none⟩) l.length cv), (15, .int .i64 (l.length : Nat)), (16, .int .i64 (k : Nat))])
    (fun k => [⟨b1, 24, [slv p rs.length cap], true, none⟩, ⟨b2, 87, [.int .i64 0, .int .i64 0], true, none⟩, (⟨some gv, cv, jv⟩ : Vec).bx 42 (cellsOf l), ⟨b4, 87, [.int .i64 ((l.take k).foldl lstF ((sd l 0).x, (sd l 0).y)).1, .int .i64 ((l.take k).foldl lstF ((sd l 0).x, (sd l 0).y)).2], true, none⟩])
    (fun k => k ≤ l.length) (fun k => l.length - k) 0 (Nat.zero_le _) ⟨rfl, rfl, rfl, rfl, rfl, rfl, trivial⟩ [] rfl ?_
  intro k hk
  refine zA ?_
  refine zB ?_
  refine wl_pure Tryz.hT rfl rfl rfl ?_
  refine wl_nil ?_
  refine zE ?_
  refine zA ?_
  refine wc_cond rfl (fun h => ?_) (fun h => ?_)
  · have hk : k < l.length := by simp at h; omega
    clear h
    have hs := lst_succ l hk ((sd l 0).x, (sd l 0).y)
    generalize (l.take k).foldl lstF ((sd l 0).x, (sd l 0).y) = q at hs ⊢
    refine zI ?_
    refine zE ?_
    refine zA ?_
    refine zH ?_
    refine zA ?_
    refine zB ?_
    refine wl_indexAddr Tryz.hT rfl rfl rfl rfl rfl rfl rfl (by omega) (by omega) ?_
    refine wl_load rfl rfl rfl rfl (fun W hp => RowAt.load 0 Tryz.hT rfl ((fun W hp => Vec.rowAt (f := Sd.cells) (n := 7) (fun _ => rfl) hp 2 rfl (sd_get hk)) W hp) rfl) ?_
    (refine wl_allocZ Tryz.hZ rfl rfl rfl rfl ?_; intro)
    refine wl_storeBx 4 Tryz.hT rfl rfl rfl rfl rfl rfl rfl rfl rfl rfl rfl ?_
    refine wl_nil ?_
    refine zE ?_
    refine zB ?_
    refine wl_pure Tryz.hT rfl rfl rfl ?_
    refine wl_loadBx 3 Tryz.hT rfl rfl rfl rfl rfl rfl rfl rfl ?_
    refine wl_pure Tryz.hT rfl rfl rfl ?_
    refine wl_loadBx 4 Tryz.hT rfl rfl rfl rfl rfl rfl rfl rfl ?_
    iterate 2 refine wl_pure Tryz.hT rfl rfl rfl ?_
    refine wl_loadBx 3 Tryz.hT rfl rfl rfl rfl rfl rfl rfl rfl ?_
    refine wl_pure Tryz.hT rfl rfl rfl ?_
    refine wl_loadBx 4 Tryz.hT rfl rfl rfl rfl rfl rfl rfl rfl ?_
    refine wl_pure Tryz.hT rfl rfl rfl ?_
    refine wl_buildZ Tryz.hZ Tryz.hT rfl rfl rfl rfl rfl rfl rfl rfl ?_
    refine wl_storeBx 3 Tryz.hT rfl rfl rfl rfl rfl rfl rfl rfl rfl rfl rfl ?_
    refine wl_nil ?_
    refine zN ?_
    refine zE ?_
    refine zB ?_
    iterate 2 refine wl_pure Tryz.hT rfl rfl rfl ?_
    refine wl_nil ?_
    exact ne_loop (k + 1) hk (by omega) ⟨rfl, rfl, rfl, rfl, rfl, congrArg (fun z => some (Value.int .i64 z)) (wrap_id (x := (k : Int) + 1) (by omega) (by omega)), trivial⟩ [_]
      (by show _ = [_, _, _, (⟨b4, 87, [.int .i64 ((l.take (k + 1)).foldl lstF ((sd l 0).x, (sd l 0).y)).1, .int .i64 ((l.take (k + 1)).foldl lstF ((sd l 0).x, (sd l 0).y)).2], true, none⟩ : Bx)] ++ [_]; rw [hs]; rfl)
  · have e : k = l.length := by simp at h; omega
    subst e
    clear h
    rw [List.take_length]
    refine zJ ?_
    iterate 2 refine zK ?_
    refine zL ?_
    refine zE ?_
    refine zA ?_
    refine zB ?_
    refine wl_loadBx 3 Tryz.hT rfl rfl rfl rfl rfl rfl rfl rfl ?_
    refine wl_storeBx 1 Tryz.hT rfl rfl rfl rfl rfl rfl rfl rfl rfl rfl rfl ?_
    refine wl_nil ?_
    refine zE ?_
    refine zO ?_
    exact ne_ret1 Tryz.hT rfl (.cell 1 rfl rfl rfl rfl rfl) () rfl trivial fun W _ => NewBx.nil _ _
/-- A quarter turn. -/
def rotF (x y : Int) : Int × Int := (w64 (0 - y), x)
theorem rot1_gives (x y : Int) (W : World) : CallsR Tryz.prog 73 #[spot x y] W (fun _ : Unit => spot (rotF x y).1 (rotF x y).2) (fun _ => True) (fun _ => []) := by
  refine calls_enter (args := [spot x y]) Tryz.func73 rfl rfl rfl ?_
  refine zA ?_
  refine zB ?_
  (refine wl_box rfl rfl rfl rfl ?_; intro)
  (refine wl_allocZ Tryz.hZ rfl rfl rfl rfl ?_; intro)
  refine wl_nil ?_
  refine zE ?_
  refine zA ?_
  refine zB ?_
  refine wl_pure Tryz.hT rfl rfl rfl ?_
  refine wl_loadBx 0 Tryz.hT rfl rfl rfl rfl rfl rfl rfl rfl ?_
  iterate 2 refine wl_pure Tryz.hT rfl rfl rfl ?_
  refine wl_loadBx 0 Tryz.hT rfl rfl rfl rfl rfl rfl rfl rfl ?_
  refine wl_buildZ Tryz.hZ Tryz.hT rfl rfl rfl rfl rfl rfl rfl rfl ?_
  refine wl_storeBx 1 Tryz.hT rfl rfl rfl rfl rfl rfl rfl rfl rfl rfl rfl ?_
  refine wl_nil ?_
  refine zE ?_
  refine zO ?_
  exact ne_ret1 Tryz.hT rfl (.cell 1 rfl rfl rfl rfl rfl) () rfl trivial fun W _ => NewBx.nil _ _
/-- Back to where a plan began. -/
def homF (u v a b : Int) (x y : Int) : Int × Int := (w64 (w64 (x - u) + a), w64 (w64 (y - v) + b))
theorem rot2_gives (u v a b x y : Int) (W : World) (b1 b2 : Nat) (h1 : RowAt W b1 0 [.int .i64 u, .int .i64 v]) (h2 : RowAt W b2 0 [.int .i64 a, .int .i64 b]) :
    CallsR Tryz.prog 74 #[spot x y, .pointer (some ⟨b1, 0, none⟩), .pointer (some ⟨b2, 0, none⟩)] W (fun _ : Unit => spot (homF u v a b x y).1 (homF u v a b x y).2) (fun _ => True) (fun _ => []) := by
  refine calls_enter (args := [spot x y, .pointer (some ⟨b1, 0, none⟩), .pointer (some ⟨b2, 0, none⟩)]) Tryz.func74 rfl rfl rfl ?_
  refine zA ?_
  refine zB ?_
  (refine wl_box rfl rfl rfl rfl ?_; intro)
  (refine wl_allocZ Tryz.hZ rfl rfl rfl rfl ?_; intro)
  refine wl_nil ?_
  refine zE ?_
  refine zA ?_
  refine zB ?_
  refine wl_pure Tryz.hT rfl rfl rfl ?_
  refine wl_loadBx 0 Tryz.hT rfl rfl rfl rfl rfl rfl rfl rfl ?_
  refine wl_pure Tryz.hT rfl rfl rfl ?_
  refine wl_load rfl rfl rfl rfl (fun W hp => RowAt.load 0 Tryz.hT rfl ((fun W hp => h1.hp hp) W hp) rfl) ?_
  iterate 2 refine wl_pure Tryz.hT rfl rfl rfl ?_
  refine wl_load rfl rfl rfl rfl (fun W hp => RowAt.load 0 Tryz.hT rfl ((fun W hp => h2.hp hp) W hp) rfl) ?_
  iterate 2 refine wl_pure Tryz.hT rfl rfl rfl ?_
  refine wl_loadBx 0 Tryz.hT rfl rfl rfl rfl rfl rfl rfl rfl ?_
  refine wl_pure Tryz.hT rfl rfl rfl ?_
  refine wl_load rfl rfl rfl rfl (fun W hp => RowAt.load 1 Tryz.hT rfl ((fun W hp => h1.hp hp) W hp) rfl) ?_
  iterate 2 refine wl_pure Tryz.hT rfl rfl rfl ?_
  refine wl_load rfl rfl rfl rfl (fun W hp => RowAt.load 1 Tryz.hT rfl ((fun W hp => h2.hp hp) W hp) rfl) ?_
  refine wl_pure Tryz.hT rfl rfl rfl ?_
  refine wl_buildZ Tryz.hZ Tryz.hT rfl rfl rfl rfl rfl rfl rfl rfl ?_
  refine wl_storeBx 1 Tryz.hT rfl rfl rfl rfl rfl rfl rfl rfl rfl rfl rfl ?_
  refine wl_nil ?_
  refine zE ?_
  refine zO ?_
  exact ne_ret1 Tryz.hT rfl (.cell 1 rfl rfl rfl rfl rfl) () rfl trivial fun W _ => NewBx.nil _ _
end Go.Proofs.YtnpfkmbcejgnjaaGreatDoor
namespace Go.Proofs.YtnpfkmbcejgnjaaGreatDoor
open Go Go.RowKit Go.Am
set_option maxRecDepth 10000
-- BOXES 4
/-- A plan and an error, as a function gives them: the plan made anew, or none. -/
abbrev Out := List (List Sd) × Int
abbrev OutR (f : Nat) (args : Array Value) (W : World) (o : Out) : Prop :=
  CallsR Tryz.prog f args W (fun x : Vec × Made => .tuple #[.agg #[x.1.val o.1.length], .int .i64 o.2]) (fun x => MadeOK x.2 o.1 ∧ x.1.OK 1 o.1.length (rowCells x.2)) (fun x => [x.1.bx 27 (rowCells x.2), mkB x.2])
/-- The least coordinates of all sides up to ring r, side j. -/
def lstTo (rs : List (List Sd)) (r j : Nat) : Int × Int := ((rs.take r).flatten ++ (rg rs r).take j).foldl lstF ((sd (rg rs 0) 0).x, (sd (rg rs 0) 0).y)
theorem lstTo_succ {rs : List (List Sd)} {r j : Nat} (hj : j < (rg rs r).length) : lstTo rs r (j + 1) = lstF (lstTo rs r j) (sd (rg rs r) j) := by
  unfold lstTo
  rw [List.take_add_one, sd_get hj, Option.toList_some, ← List.append_assoc, List.foldl_append]; rfl
theorem lstTo_next {rs : List (List Sd)} {r : Nat} (hr : r < rs.length) : lstTo rs (r + 1) 0 = lstTo rs r (rg rs r).length := by
  unfold lstTo
  rw [take_flat hr, List.take_zero, List.append_nil, List.take_length]
theorem sd_flat {rs : List (List Sd)} (hr : 0 < rs.length) (h0 : 0 < (rg rs 0).length) : sd rs.flatten 0 = sd (rg rs 0) 0 := by
  cases rs with
  | nil => exact absurd hr (Nat.lt_irrefl _)
  | cons l rs =>
    have h0 : 0 < l.length := h0
    show List.getD (l ++ rs.flatten) 0 default = List.getD l 0 default
    rw [List.getD_eq_getElem?_getD, List.getElem?_append_left h0, List.getD_eq_getElem?_getD]
theorem lstTo_all {rs : List (List Sd)} (hr : 0 < rs.length) (h0 : 0 < (rg rs 0).length) : lstTo rs rs.length 0 = lstL rs.flatten := by
  unfold lstTo lstL
  rw [List.take_length, List.take_zero, List.append_nil, sd_flat hr h0]
set_option maxHeartbeats 8000000 in
theorem leastR_gives (W : World) (p : Option Addr) (cap : Nat) (rs : List (List Sd)) (hn : rs.length < 4611686018427387904) (hT : tot rs < 1099511627776) (h0 : tot rs ≠ 0) (hR : RingsP W p rs) (hne : ∀ l ∈ rs, l ≠ []) :
    CallsR Tryz.prog 96 #[planV p rs.length cap] W (fun _ : Unit => .tuple #[.int .i64 (lstL rs.flatten).1, .int .i64 (lstL rs.flatten).2]) (fun _ => True) (fun _ => []) := by
  have hr0 : 0 < rs.length := by
    cases rs with
    | nil => exact absurd rfl h0
    | cons l rs => exact Nat.succ_pos _
  have hl0 : 0 < (rg rs 0).length := List.length_pos_iff.2 (hne _ (List.mem_of_getElem? (rg_get hr0)))
  obtain ⟨b, off, rfl, hrow⟩ := hR.row hr0
  obtain ⟨q, cap2, hq1, hq2⟩ := hrow 0 hr0
  obtain ⟨bq, oq, rfl, hrq⟩ := hq2.row hl0
  refine calls_enter (args := [planV (some ⟨b, off, none⟩) rs.length cap]) Tryz.func96 rfl rfl rfl ?_
  refine zA ?_
  refine zB ?_
  (refine wl_box rfl rfl rfl rfl ?_; intro)
  iterate 2 refine wl_pure Tryz.hT rfl rfl rfl ?_
  refine wl_nil ?_
  rename_i b1
  refine zE ?_
  refine zA ?_
  refine zT Tryz.mixed (by kernel_rfl) ?_
  refine wq_pure Tryz.hT rfl rfl rfl ?_
  refine wq_loadBx 0 Tryz.hT rfl rfl rfl rfl rfl rfl rfl rfl ?_
  refine wq_indexAddr Tryz.hT rfl rfl rfl rfl rfl rfl rfl (by omega) (by omega) ?_
  refine wq_load rfl rfl rfl rfl (fun W hp => RowAt.load 0 Tryz.hT rfl ((fun W hp => hq1.hp hp) W hp) rfl) ?_
  refine wq_indexAddr Tryz.hT rfl rfl rfl rfl rfl rfl rfl (by omega) (by omega) ?_
  refine wq_pure Tryz.hT rfl rfl rfl ?_
  refine wq_load rfl rfl rfl rfl (fun W hp => RowAt.load 0 Tryz.hT rfl ((fun W hp => (hrq 0 hl0).hp hp) W hp) rfl) ?_
  refine wq_pure Tryz.hT rfl rfl rfl ?_
  refine wq_loadBx 0 Tryz.hT rfl rfl rfl rfl rfl rfl rfl rfl ?_
  refine wq_indexAddr Tryz.hT rfl rfl rfl rfl rfl rfl rfl (by omega) (by omega) ?_
  refine wq_load rfl rfl rfl rfl (fun W hp => RowAt.load 0 Tryz.hT rfl ((fun W hp => hq1.hp hp) W hp) rfl) ?_
  refine wq_indexAddr Tryz.hT rfl rfl rfl rfl rfl rfl rfl (by omega) (by omega) ?_
  refine wq_pure Tryz.hT rfl rfl rfl ?_
  refine wq_load rfl rfl rfl rfl (fun W hp => RowAt.load 1 Tryz.hT rfl ((fun W hp => (hrq 0 hl0).hp hp) W hp) rfl) ?_
  iterate 2 refine wq_pure Tryz.hT rfl rfl rfl ?_
  refine wq_nil ?_
  refine wl_nil ?_
  refine zE ?_
  iterate 2 refine zA ?_
  refine zB ?_
  refine wl_pure Tryz.hT rfl rfl rfl ?_
  refine wl_nil ?_
  refine zE ?_
  refine zH ?_
  refine wc_loop (X := Nat) (fun r => [(1, .pointer (some ⟨b1, 0, none⟩)), (4, .int .i64 (lstTo rs r 0).1), (5, .int .i64 (lstTo rs r 0).2), (6, .int .i64 (r : Nat))]) (fun _ => [⟨b1, 24, [slv (some ⟨b, off, none⟩) rs.length cap], true, none⟩])
    (fun r => r ≤ rs.length) (fun r => rs.length - r) 0 (Nat.zero_le _) ⟨rfl, rfl, rfl, rfl, trivial⟩ [] rfl ?_
  intro r hr
  iterate 2 refine zA ?_
  refine zB ?_
  iterate 2 refine wl_pure Tryz.hT rfl rfl rfl ?_
  refine wl_loadBx 0 Tryz.hT rfl rfl rfl rfl rfl rfl rfl rfl ?_
  iterate 2 refine wl_pure Tryz.hT rfl rfl rfl ?_
  refine wl_nil ?_
  refine zE ?_
  refine wc_cond rfl (fun h => ?_) (fun h => ?_)
  rotate_left
  · have e : r = rs.length := by have h' : decide ((r : Int) < (rs.length : Nat)) = false := h; rw [decide_eq_false_iff_not] at h'; omega
    subst e
    clear h
    rw [lstTo_all hr0 hl0]
    refine zJ ?_
    iterate 2 refine zK ?_
    refine zL ?_
    refine zE ?_
    refine zA ?_
    refine zB ?_
    iterate 4 refine wl_pure Tryz.hT rfl rfl rfl ?_
    refine wl_nil ?_
    refine zE ?_
    refine zO ?_
    exact ne_ret2 Tryz.hT rfl (.tmp rfl) (.tmp rfl) () rfl trivial fun W _ => NewBx.nil _ _
  have hr : r < rs.length := by have h' : decide ((r : Int) < (rs.length : Nat)) = true := h; rw [decide_eq_true_iff] at h'; omega
  clear h
  obtain ⟨q', cap3, hq3, hq4⟩ := hrow r hr
  have hlr := len_le_tot (List.mem_of_getElem? (rg_get hr))
  refine zI ?_
  refine zE ?_
  refine zA ?_
  refine zH ?_
  refine zA ?_
  refine zB ?_
  refine wl_pure Tryz.hT rfl rfl rfl ?_
  refine wl_nil ?_
  refine zE ?_
  refine zH ?_
  refine wc_loop (X := Nat) (fun j => [(1, .pointer (some ⟨b1, 0, none⟩)), (4, .int .i64 (lstTo rs r j).1), (5, .int .i64 (lstTo rs r j).2), (6, .int .i64 (r : Nat)), (7, .int .i64 (j : Nat))]) (fun _ => [⟨b1, 24, [slv (some ⟨b, off, none⟩) rs.length cap], true, none⟩])
    (fun j => j ≤ (rg rs r).length) (fun j => (rg rs r).length - j) 0 (Nat.zero_le _) ⟨rfl, rfl, rfl, rfl, rfl, trivial⟩ [] rfl ?_
  intro j hj
  iterate 2 refine zA ?_
  refine zB ?_
  iterate 2 refine wl_pure Tryz.hT rfl rfl rfl ?_
  refine wl_loadBx 0 Tryz.hT rfl rfl rfl rfl rfl rfl rfl rfl ?_
  refine wl_pure Tryz.hT rfl rfl rfl ?_
  refine wl_indexAddr Tryz.hT rfl rfl rfl rfl rfl rfl rfl (by omega) (by omega) ?_
  refine wl_load rfl rfl rfl rfl (fun W hp => RowAt.load 0 Tryz.hT rfl ((fun W hp => hq3.hp hp) W hp) rfl) ?_
  iterate 2 refine wl_pure Tryz.hT rfl rfl rfl ?_
  refine wl_nil ?_
  refine zE ?_
  refine wc_cond rfl (fun h => ?_) (fun h => ?_)
  rotate_left
  · have e : j = (rg rs r).length := by have h' : decide ((j : Int) < ((rg rs r).length : Nat)) = false := h; rw [decide_eq_false_iff_not] at h'; omega
    subst e
    clear h
    refine zJ ?_
    iterate 2 refine zK ?_
    refine zL ?_
    refine zN ?_
    refine zE ?_
    refine zB ?_
    iterate 3 refine wl_pure Tryz.hT rfl rfl rfl ?_
    refine wl_nil ?_
    exact ne_loop (r + 1) hr (by omega) ⟨rfl, congrArg (fun z : Int × Int => some (Value.int .i64 z.1)) (lstTo_next hr).symm, congrArg (fun z : Int × Int => some (Value.int .i64 z.2)) (lstTo_next hr).symm, congrArg (fun z => some (Value.int .i64 z)) (wrap_id (x := (r : Int) + 1) (by omega) (by omega)), trivial⟩ [] rfl
  have hj : j < (rg rs r).length := by have h' : decide ((j : Int) < ((rg rs r).length : Nat)) = true := h; rw [decide_eq_true_iff] at h'; omega
  clear h
  obtain ⟨br, or, rfl, hrr⟩ := hq4.row hj
  refine zI ?_
  refine zE ?_
  refine zA ?_
  refine zH ?_
  refine zT Tryz.mixed (by kernel_rfl) ?_
  iterate 2 refine wq_pure Tryz.hT rfl rfl rfl ?_
  refine wq_loadBx 0 Tryz.hT rfl rfl rfl rfl rfl rfl rfl rfl ?_
  refine wq_pure Tryz.hT rfl rfl rfl ?_
  refine wq_indexAddr Tryz.hT rfl rfl rfl rfl rfl rfl rfl (by omega) (by omega) ?_
  refine wq_load rfl rfl rfl rfl (fun W hp => RowAt.load 0 Tryz.hT rfl ((fun W hp => hq3.hp hp) W hp) rfl) ?_
  refine wq_pure Tryz.hT rfl rfl rfl ?_
  refine wq_indexAddr Tryz.hT rfl rfl rfl rfl rfl rfl rfl (by omega) (by omega) ?_
  refine wq_pure Tryz.hT rfl rfl rfl ?_
  refine wq_load rfl rfl rfl rfl (fun W hp => RowAt.load 0 Tryz.hT rfl ((fun W hp => (hrr j hj).hp hp) W hp) rfl) ?_
  iterate 3 refine wq_pure Tryz.hT rfl rfl rfl ?_
  refine wq_loadBx 0 Tryz.hT rfl rfl rfl rfl rfl rfl rfl rfl ?_
  refine wq_pure Tryz.hT rfl rfl rfl ?_
  refine wq_indexAddr Tryz.hT rfl rfl rfl rfl rfl rfl rfl (by omega) (by omega) ?_
  refine wq_load rfl rfl rfl rfl (fun W hp => RowAt.load 0 Tryz.hT rfl ((fun W hp => hq3.hp hp) W hp) rfl) ?_
  refine wq_pure Tryz.hT rfl rfl rfl ?_
  refine wq_indexAddr Tryz.hT rfl rfl rfl rfl rfl rfl rfl (by omega) (by omega) ?_
  refine wq_pure Tryz.hT rfl rfl rfl ?_
  refine wq_load rfl rfl rfl rfl (fun W hp => RowAt.load 1 Tryz.hT rfl ((fun W hp => (hrr j hj).hp hp) W hp) rfl) ?_
  iterate 3 refine wq_pure Tryz.hT rfl rfl rfl ?_
  refine wq_nil ?_
  refine wl_nil ?_
  refine zN ?_
  refine zE ?_
  refine zB ?_
  iterate 3 refine wl_pure Tryz.hT rfl rfl rfl ?_
  refine wl_nil ?_
  exact ne_loop (j + 1) hj (by omega) ⟨rfl, congrArg (fun z : Int × Int => some (Value.int .i64 z.1)) (lstTo_succ hj).symm, congrArg (fun z : Int × Int => some (Value.int .i64 z.2)) (lstTo_succ hj).symm, rfl, congrArg (fun z => some (Value.int .i64 z)) (wrap_id (x := (j : Int) + 1) (by omega) (by omega)), trivial⟩ [] rfl
/-- A map of coordinates by whole numbers. -/
def affF (a b c d e f : Int) (x y : Int) : Int × Int := (w64 (w64 (w64 (a * x) + w64 (b * y)) + e), w64 (w64 (w64 (c * x) + w64 (d * y)) + f))
-- BOXIDX t7=0 t14=1 t15=2 t19=6
set_option maxHeartbeats 8000000 in
theorem movedR_gives (W : World) (p : Option Addr) (cap : Nat) (rs : List (List Sd)) (a b c d e f : Int) (hn : rs.length < 1099511627776) (hT : tot rs < 1099511627776) (hR : RingsP W p rs) (hne : ∀ l ∈ rs, l ≠ []) :
    CallsR Tryz.prog 97 #[planV p rs.length cap, .int .i64 a, .int .i64 b, .int .i64 c, .int .i64 d, .int .i64 e, .int .i64 f] W (fun x : Vec × Made => .agg #[x.1.val rs.length]) (fun x => MadeOK x.2 (mvR (affF a b c d e f) rs) ∧ x.1.OK 1 rs.length (rowCells x.2)) (fun x => [x.1.bx 27 (rowCells x.2), mkB x.2]) := by
  have hl : ∀ l ∈ rs, l.length < 1099511627776 := fun l h => by have := len_le_tot h; omega
  refine calls_enter (args := [planV p rs.length cap, .int .i64 a, .int .i64 b, .int .i64 c, .int .i64 d, .int .i64 e, .int .i64 f]) Tryz.func97 rfl rfl rfl ?_
  refine zA ?_
  refine zB ?_
  (refine wl_box rfl rfl rfl rfl ?_; intro)
  (refine wl_allocZ Tryz.hZ rfl rfl rfl rfl ?_; intro)
  refine wl_nil ?_
  rename_i b7 b14
  refine zE ?_
  refine zA ?_
  refine zB ?_
  (refine wl_allocZ Tryz.hZ rfl rfl rfl rfl ?_; intro)
  refine wl_nil ?_
  rename_i b15
  refine zE ?_
  iterate 2 refine zA ?_
  refine zB ?_
  refine wl_pure Tryz.hT rfl rfl rfl ?_
  refine wl_nil ?_
  refine zE ?_
  refine zH ?_
  refine wc_newGone ?_
  refine wc_newGrp ?_
  refine wc_loop (X := Nat × Vec × Made) (fun x => [(1, .int .i64 a), (2, .int .i64 b), (3, .int .i64 c), (4, .int .i64 d), (5, .int .i64 e), (6, .int .i64 f), (7, .pointer (some ⟨b7, 0, none⟩)), (14, .pointer (some ⟨b14, 0, none⟩)), (15, .pointer (some ⟨b15, 0, none⟩)), (16, .int .i64 (x.1 : Nat))])
    (fun x => [⟨b7, 24, [slv p rs.length cap], true, none⟩, ⟨b14, 24, [slv none 0 0], true, none⟩, ⟨b15, 24, [x.2.1.val x.1], true, none⟩, x.2.1.bx 27 (rowCells x.2.2), mkB x.2.2])
    (fun x => x.1 ≤ rs.length ∧ MadeOK x.2.2 (mvR (affF a b c d e f) (rs.take x.1)) ∧ x.2.1.OK 1 x.1 (rowCells x.2.2)) (fun x => rs.length - x.1) (0, Vec.empty, []) ⟨Nat.zero_le _, ⟨rfl, fun p hp => by cases hp⟩, Vec.OK.empty 1⟩ ⟨rfl, rfl, rfl, rfl, rfl, rfl, rfl, rfl, rfl, rfl, trivial⟩ [] rfl ?_
  rintro ⟨k, V, mk⟩ ⟨hk, hmk, hV⟩
  change k ≤ rs.length at hk
  change MadeOK mk (mvR (affF a b c d e f) (rs.take k)) at hmk
  change V.OK 1 k (rowCells mk) at hV
  iterate 2 refine zA ?_
  refine zB ?_
  iterate 2 refine wl_pure Tryz.hT rfl rfl rfl ?_
  refine wl_loadBx 0 Tryz.hT rfl rfl rfl rfl rfl rfl rfl rfl ?_
  iterate 2 refine wl_pure Tryz.hT rfl rfl rfl ?_
  refine wl_nil ?_
  refine zE ?_
  refine wc_cond rfl (fun h => ?_) (fun h => ?_)
  rotate_left
  · have e0 : k = rs.length := by have h' : decide ((k : Int) < (rs.length : Nat)) = false := h; rw [decide_eq_false_iff_not] at h'; omega
    subst e0
    have ev := Vec.val_eq hV
    refine zJ ?_
    iterate 2 refine zK ?_
    refine zL ?_
    refine zE ?_
    refine zA ?_
    refine zB ?_
    refine wl_loadBx 2 Tryz.hT rfl rfl rfl rfl rfl rfl rfl rfl ?_
    refine wl_upd 79 (.agg #[.slice (V.p.map fun g => ⟨g, 0, none⟩) rs.length (match V.p with | none => 0 | some _ => V.cap)]) rfl (congrArg (fun v => Value.agg #[v]) ev) ?_
    refine wl_storeBx 1 Tryz.hT rfl rfl rfl rfl rfl rfl rfl rfl rfl rfl rfl ?_
    refine wl_nil ?_
    refine zE ?_
    refine zO ?_
    rw [List.take_length] at hmk
    exact ne_ret1 Tryz.hT rfl (.cell 1 rfl rfl rfl rfl rfl) (V, mk) (congrArg (fun v => Value.agg #[v]) ev.symm) ⟨hmk, hV⟩ fun W hp => (hp.pick [3, 4] (by decide) rfl).own
  have hk : k < rs.length := by have h' : decide ((k : Int) < (rs.length : Nat)) = true := h; rw [decide_eq_true_iff] at h'; omega
  clear h
  obtain ⟨b0, off, rfl, hrow⟩ := hR.row hk
  obtain ⟨q, cap2, hq1, hq2⟩ := hrow k hk
  have hlk := hl _ (List.mem_of_getElem? (rg_get hk))
  have hnek := hne _ (List.mem_of_getElem? (rg_get hk))
  refine zI ?_
  refine zE ?_
  refine zA ?_
  refine zH ?_
  refine zA ?_
  refine zB ?_
  refine wl_pure Tryz.hT rfl rfl rfl ?_
  refine wl_nil ?_
  refine zE ?_
  iterate 2 refine zA ?_
  refine zB ?_
  refine wl_pure Tryz.hT rfl rfl rfl ?_
  refine wl_nil ?_
  refine zE ?_
  refine zH ?_
  refine wc_newGone ?_
  refine wc_loop (X := Nat × Vec) (fun x => [(1, .int .i64 a), (2, .int .i64 b), (3, .int .i64 c), (4, .int .i64 d), (5, .int .i64 e), (6, .int .i64 f), (7, .pointer (some ⟨b7, 0, none⟩)), (14, .pointer (some ⟨b14, 0, none⟩)), (15, .pointer (some ⟨b15, 0, none⟩)), (16, .int .i64 (k : Nat)), (17, x.2.val x.1), (18, .int .i64 (x.1 : Nat))])
    (fun x => [⟨b7, 24, [slv (some ⟨b0, off, none⟩) rs.length cap], true, none⟩, ⟨b14, 24, [slv none 0 0], true, none⟩, ⟨b15, 24, [V.val k], true, none⟩, V.bx 27 (rowCells mk), mkB mk, x.2.bx 42 (cellsOf (((rg rs k).take x.1).map (mvS (affF a b c d e f))))])
    (fun x => x.1 ≤ (rg rs k).length ∧ x.2.OK 7 x.1 (cellsOf (((rg rs k).take x.1).map (mvS (affF a b c d e f))))) (fun x => (rg rs k).length - x.1) (0, Vec.empty) ⟨Nat.zero_le _, Vec.OK.empty 7⟩ ⟨rfl, rfl, rfl, rfl, rfl, rfl, rfl, rfl, rfl, rfl, rfl, rfl, trivial⟩ [] rfl ?_
  rintro ⟨j, U⟩ ⟨hj, hU⟩
  change j ≤ (rg rs k).length at hj
  change U.OK 7 j (cellsOf (((rg rs k).take j).map (mvS (affF a b c d e f)))) at hU
  iterate 2 refine zA ?_
  refine zB ?_
  iterate 2 refine wl_pure Tryz.hT rfl rfl rfl ?_
  refine wl_loadBx 0 Tryz.hT rfl rfl rfl rfl rfl rfl rfl rfl ?_
  refine wl_pure Tryz.hT rfl rfl rfl ?_
  refine wl_indexAddr Tryz.hT rfl rfl rfl rfl rfl rfl rfl (by omega) (by omega) ?_
  refine wl_load rfl rfl rfl rfl (fun W hp => RowAt.load 0 Tryz.hT rfl ((fun W hp => hq1.hp hp) W hp) rfl) ?_
  iterate 2 refine wl_pure Tryz.hT rfl rfl rfl ?_
  refine wl_nil ?_
  refine zE ?_
  refine wc_cond rfl (fun h => ?_) (fun h => ?_)
  · have hj : j < (rg rs k).length := by have h' : decide ((j : Int) < ((rg rs k).length : Nat)) = true := h; rw [decide_eq_true_iff] at h'; omega
    clear h
    obtain ⟨bq, oq, rfl, hrq⟩ := hq2.row hj
    have htj : ((rg rs k).take (j + 1)).map (mvS (affF a b c d e f)) = ((rg rs k).take j).map (mvS (affF a b c d e f)) ++ [mvS (affF a b c d e f) (sd (rg rs k) j)] := by rw [List.take_add_one, sd_get hj]; simp
    refine zI ?_
    refine zE ?_
    refine zA ?_
    refine zH ?_
    refine zA ?_
    refine zB ?_
    refine wl_pure Tryz.hT rfl rfl rfl ?_
    refine wl_loadBx 0 Tryz.hT rfl rfl rfl rfl rfl rfl rfl rfl ?_
    refine wl_pure Tryz.hT rfl rfl rfl ?_
    refine wl_indexAddr Tryz.hT rfl rfl rfl rfl rfl rfl rfl (by omega) (by omega) ?_
    refine wl_load rfl rfl rfl rfl (fun W hp => RowAt.load 0 Tryz.hT rfl ((fun W hp => hq1.hp hp) W hp) rfl) ?_
    refine wl_pure Tryz.hT rfl rfl rfl ?_
    refine wl_indexAddr Tryz.hT rfl rfl rfl rfl rfl rfl rfl (by omega) (by omega) ?_
    refine wl_load rfl rfl rfl rfl (fun W hp => RowAt.load 0 Tryz.hT rfl ((fun W hp => (hrq j hj).hp hp) W hp) rfl) ?_
    (refine wl_allocZ Tryz.hZ rfl rfl rfl rfl ?_; intro)
    refine wl_storeBx 6 Tryz.hT rfl rfl rfl rfl rfl rfl rfl rfl rfl rfl rfl ?_
    refine wl_nil ?_
    rename_i b19
    refine zE ?_
    refine zA ?_
    refine zB ?_
    iterate 2 refine wl_pure Tryz.hT rfl rfl rfl ?_
    refine wl_loadBx 6 Tryz.hT rfl rfl rfl rfl rfl rfl rfl rfl ?_
    iterate 3 refine wl_pure Tryz.hT rfl rfl rfl ?_
    refine wl_loadBx 6 Tryz.hT rfl rfl rfl rfl rfl rfl rfl rfl ?_
    iterate 6 refine wl_pure Tryz.hT rfl rfl rfl ?_
    refine wl_loadBx 6 Tryz.hT rfl rfl rfl rfl rfl rfl rfl rfl ?_
    iterate 3 refine wl_pure Tryz.hT rfl rfl rfl ?_
    refine wl_loadBx 6 Tryz.hT rfl rfl rfl rfl rfl rfl rfl rfl ?_
    iterate 5 refine wl_pure Tryz.hT rfl rfl rfl ?_
    refine wl_storeBx 6 Tryz.hT rfl rfl rfl rfl rfl rfl rfl rfl rfl rfl rfl ?_
    refine wl_pure Tryz.hT rfl rfl rfl ?_
    refine wl_storeBx 6 Tryz.hT rfl rfl rfl rfl rfl rfl rfl rfl rfl rfl rfl ?_
    refine wl_nil ?_
    refine zE ?_
    refine zB ?_
    refine wl_pure Tryz.hT rfl rfl rfl ?_
    refine wl_loadBx 6 Tryz.hT rfl rfl rfl rfl rfl rfl rfl rfl ?_
    (refine wl_buildRowZ Tryz.hZ Tryz.hT rfl rfl rfl rfl rfl rfl rfl rfl rfl rfl rfl ?_; intro)
    refine wl_appendTo (V := U) (len := j) (xs := cellsOf (((rg rs k).take j).map (mvS (affF a b c d e f)))) 5 7 Tryz.vec27 (j + 1) (cellsOf (((rg rs k).take (j + 1)).map (mvS (affF a b c d e f)))) rfl rfl rfl rfl rfl rfl rfl rfl rfl rfl rfl hU rfl rfl rfl (by rw [htj, cellsOf_append]; rfl) (by simp only [maxLen]; omega) (by omega) rfl ?_
    intro g1 c1 j1 hU1
    refine wl_pure Tryz.hT rfl rfl rfl ?_
    refine wl_nil ?_
    refine zN ?_
    refine zE ?_
    refine zB ?_
    iterate 3 refine wl_pure Tryz.hT rfl rfl rfl ?_
    refine wl_nil ?_
    exact ne_loop (j + 1, ⟨some g1, c1, j1⟩) ⟨hj, hU1⟩ (by show (rg rs k).length - (j + 1) < (rg rs k).length - j; omega) ⟨rfl, rfl, rfl, rfl, rfl, rfl, rfl, rfl, rfl, rfl, rfl, congrArg (fun z => some (Value.int .i64 z)) (wrap_id (x := (j : Int) + 1) (by omega) (by omega)), trivial⟩ [_, _] rfl
  have e0 : j = (rg rs k).length := by have h' : decide ((j : Int) < ((rg rs k).length : Nat)) = false := h; rw [decide_eq_false_iff_not] at h'; omega
  subst e0
  clear h
  rw [List.take_length] at hU
  obtain ⟨pU, cU, jU⟩ := U
  cases pU with
  | none => exact absurd (List.length_eq_zero_iff.1 (hU.nil rfl)) hnek
  | some gU =>
  have hlm : ((rg rs k).map (mvS (affF a b c d e f))).length = (rg rs k).length := List.length_map _
  have htk : mvR (affF a b c d e f) (rs.take (k + 1)) = mvR (affF a b c d e f) (rs.take k) ++ [(rg rs k).map (mvS (affF a b c d e f))] := by
    unfold mvR
    rw [List.take_add_one, rg_get hk]; simp
  rw [List.take_length]
  refine zJ ?_
  iterate 2 refine zK ?_
  refine zL ?_
  refine zE ?_
  refine zB ?_
  refine wl_pure Tryz.hT rfl rfl rfl ?_
  refine wl_loadBx 2 Tryz.hT rfl rfl rfl rfl rfl rfl rfl rfl ?_
  refine wl_pure Tryz.hT rfl rfl rfl ?_
  (refine wl_buildRowZ Tryz.hZ Tryz.hT rfl rfl rfl rfl rfl rfl rfl rfl rfl rfl rfl ?_; intro)
  refine wl_appendTo (V := V) (xs := rowCells mk) (len := k) 3 6 Tryz.vec22 (k + 1) (rowCells (mk ++ [((⟨some gU, cU, jU⟩ : Vec), (rg rs k).map (mvS (affF a b c d e f)))])) rfl rfl rfl rfl rfl rfl rfl rfl rfl rfl rfl hV rfl rfl rfl (by rw [rowCells_snoc, hlm]; rfl) (by simp only [maxLen]; omega) (by omega) rfl ?_
  intro g1 c1 j1 hV1
  refine wl_pure Tryz.hT rfl rfl rfl ?_
  refine wl_storeBx 2 Tryz.hT rfl rfl rfl rfl rfl rfl rfl rfl rfl rfl rfl ?_
  refine wl_nil ?_
  refine zN ?_
  refine zE ?_
  refine zB ?_
  iterate 3 refine wl_pure Tryz.hT rfl rfl rfl ?_
  refine wl_nil ?_
  refine ne_join 4 5 (mkB (mk ++ [((⟨some gU, cU, jU⟩ : Vec), (rg rs k).map (mvS (affF a b c d e f)))])) rfl rfl rfl (mkB_snoc mk _ _) ?_
  exact ne_loop (k + 1, ⟨some g1, c1, j1⟩, mk ++ [((⟨some gU, cU, jU⟩ : Vec), (rg rs k).map (mvS (affF a b c d e f)))]) ⟨hk, htk ▸ hmk.snoc (by rw [hlm]; exact hU), hV1⟩ (by show rs.length - (k + 1) < rs.length - k; omega) ⟨rfl, rfl, rfl, rfl, rfl, rfl, rfl, rfl, rfl, congrArg (fun z => some (Value.int .i64 z)) (wrap_id (x := (k : Int) + 1) (by omega) (by omega)), trivial⟩ [gone, _] rfl
set_option maxHeartbeats 8000000 in
theorem boundedR_gives (W : World) (p : Option Addr) (cap : Nat) (rs : List (List Sd)) (hn : rs.length < 4611686018427387904) (hT : tot rs < 1099511627776) (hR : RingsP W p rs) :
    CallsR Tryz.prog 98 #[planV p rs.length cap] W (fun _ : Unit => if rs.flatten.any (fun s => !rgd s) = true then .tuple #[noPlan, .int .i64 2] else .tuple #[planV p rs.length cap, .int .i64 0]) (fun _ => True) (fun _ => []) := by
  refine calls_enter (args := [planV p rs.length cap]) Tryz.func98 rfl rfl rfl ?_
  refine zA ?_
  refine zB ?_
  (refine wl_box rfl rfl rfl rfl ?_; intro)
  (refine wl_allocZ Tryz.hZ rfl rfl rfl rfl ?_; intro)
  refine wl_pure Tryz.hT rfl rfl rfl ?_
  refine wl_nil ?_
  rename_i b1 b2
  refine zE ?_
  iterate 2 refine zA ?_
  refine zB ?_
  refine wl_pure Tryz.hT rfl rfl rfl ?_
  refine wl_nil ?_
  refine zE ?_
  refine zH ?_
  refine wc_loop (X := Nat) (fun r => [(1, .pointer (some ⟨b1, 0, none⟩)), (2, .pointer (some ⟨b2, 0, none⟩)), (4, .int .i64 (r : Nat))]) (fun _ => [⟨b1, 24, [slv p rs.length cap], true, none⟩, ⟨b2, 24, [slv none 0 0], true, none⟩])
    (fun r => r ≤ rs.length ∧ ∀ l ∈ rs.take r, ∀ s ∈ l, rgd s = true) (fun r => rs.length - r) 0 ⟨Nat.zero_le _, fun l h => by cases h⟩ ⟨rfl, rfl, rfl, trivial⟩ [] rfl ?_
  rintro r ⟨hr, hall⟩
  iterate 2 refine zA ?_
  refine zB ?_
  iterate 2 refine wl_pure Tryz.hT rfl rfl rfl ?_
  refine wl_loadBx 0 Tryz.hT rfl rfl rfl rfl rfl rfl rfl rfl ?_
  iterate 2 refine wl_pure Tryz.hT rfl rfl rfl ?_
  refine wl_nil ?_
  refine zE ?_
  refine wc_cond rfl (fun h => ?_) (fun h => ?_)
  rotate_left
  · have e : r = rs.length := by have h' : decide ((r : Int) < (rs.length : Nat)) = false := h; rw [decide_eq_false_iff_not] at h'; omega
    subst e
    clear h
    rw [List.take_length] at hall
    have hno : ¬ rs.flatten.any (fun s => !rgd s) = true := fun h2 => by
      obtain ⟨s, hs, h3⟩ := List.any_eq_true.1 h2
      obtain ⟨l, hl, hs⟩ := List.mem_flatten.1 hs
      rw [hall l hl s hs] at h3
      cases h3
    refine zJ ?_
    iterate 2 refine zK ?_
    refine zL ?_
    refine zE ?_
    refine zA ?_
    refine zB ?_
    refine wl_loadBx 0 Tryz.hT rfl rfl rfl rfl rfl rfl rfl rfl ?_
    refine wl_storeBx 1 Tryz.hT rfl rfl rfl rfl rfl rfl rfl rfl rfl rfl rfl ?_
    refine wl_pure Tryz.hT rfl rfl rfl ?_
    refine wl_nil ?_
    refine zE ?_
    refine zO ?_
    exact ne_ret2 Tryz.hT rfl (.cell 1 rfl rfl rfl rfl rfl) (.tmp rfl) () (by rw [if_neg hno]; rfl) trivial fun W _ => NewBx.nil _ _
  have hr : r < rs.length := by have h' : decide ((r : Int) < (rs.length : Nat)) = true := h; rw [decide_eq_true_iff] at h'; omega
  clear h
  obtain ⟨b, off, rfl, hrow⟩ := hR.row hr
  obtain ⟨q, cap2, hq1, hq2⟩ := hrow r hr
  have hlr := len_le_tot (List.mem_of_getElem? (rg_get hr))
  have htk : rs.take (r + 1) = rs.take r ++ [rg rs r] := by rw [List.take_add_one, rg_get hr]; simp
  refine zI ?_
  refine zE ?_
  refine zA ?_
  refine zH ?_
  refine zA ?_
  refine zB ?_
  refine wl_pure Tryz.hT rfl rfl rfl ?_
  refine wl_nil ?_
  refine zE ?_
  refine zH ?_
  refine wc_loop (X := Nat) (fun j => [(1, .pointer (some ⟨b1, 0, none⟩)), (2, .pointer (some ⟨b2, 0, none⟩)), (4, .int .i64 (r : Nat)), (5, .int .i64 (j : Nat))]) (fun _ => [⟨b1, 24, [slv (some ⟨b, off, none⟩) rs.length cap], true, none⟩, ⟨b2, 24, [slv none 0 0], true, none⟩])
    (fun j => j ≤ (rg rs r).length ∧ ∀ i, i < j → rgd (sd (rg rs r) i) = true) (fun j => (rg rs r).length - j) 0 ⟨Nat.zero_le _, fun i h => absurd h (Nat.not_lt_zero _)⟩ ⟨rfl, rfl, rfl, rfl, trivial⟩ [] rfl ?_
  rintro j ⟨hj, hup⟩
  iterate 2 refine zA ?_
  refine zB ?_
  iterate 2 refine wl_pure Tryz.hT rfl rfl rfl ?_
  refine wl_loadBx 0 Tryz.hT rfl rfl rfl rfl rfl rfl rfl rfl ?_
  refine wl_pure Tryz.hT rfl rfl rfl ?_
  refine wl_indexAddr Tryz.hT rfl rfl rfl rfl rfl rfl rfl (by omega) (by omega) ?_
  refine wl_load rfl rfl rfl rfl (fun W hp => RowAt.load 0 Tryz.hT rfl ((fun W hp => hq1.hp hp) W hp) rfl) ?_
  iterate 2 refine wl_pure Tryz.hT rfl rfl rfl ?_
  refine wl_nil ?_
  refine zE ?_
  refine wc_cond rfl (fun h => ?_) (fun h => ?_)
  rotate_left
  · have e : j = (rg rs r).length := by have h' : decide ((j : Int) < ((rg rs r).length : Nat)) = false := h; rw [decide_eq_false_iff_not] at h'; omega
    subst e
    clear h
    refine zJ ?_
    iterate 2 refine zK ?_
    refine zL ?_
    refine zN ?_
    refine zE ?_
    refine zB ?_
    iterate 3 refine wl_pure Tryz.hT rfl rfl rfl ?_
    refine wl_nil ?_
    refine ne_loop (r + 1) ⟨hr, fun l hl s hs => ?_⟩ (by omega) ⟨rfl, rfl, congrArg (fun z => some (Value.int .i64 z)) (wrap_id (x := (r : Int) + 1) (by omega) (by omega)), trivial⟩ [] rfl
    rw [htk] at hl
    rcases List.mem_append.1 hl with hl | hl
    · exact hall l hl s hs
    · obtain rfl := List.mem_singleton.1 hl
      obtain ⟨i, hi, rfl⟩ := List.getElem_of_mem hs
      have := hup i hi
      rw [show sd (rg rs r) i = (rg rs r)[i] by simp [sd, hi]] at this
      exact this
  have hj : j < (rg rs r).length := by have h' : decide ((j : Int) < ((rg rs r).length : Nat)) = true := h; rw [decide_eq_true_iff] at h'; omega
  clear h
  obtain ⟨bq, oq, rfl, hrq⟩ := hq2.row hj
  refine zI ?_
  refine zE ?_
  refine zA ?_
  refine zH ?_
  refine zA ?_
  refine zB ?_
  refine wl_pure Tryz.hT rfl rfl rfl ?_
  refine wl_loadBx 0 Tryz.hT rfl rfl rfl rfl rfl rfl rfl rfl ?_
  refine wl_pure Tryz.hT rfl rfl rfl ?_
  refine wl_indexAddr Tryz.hT rfl rfl rfl rfl rfl rfl rfl (by omega) (by omega) ?_
  refine wl_load rfl rfl rfl rfl (fun W hp => RowAt.load 0 Tryz.hT rfl ((fun W hp => hq1.hp hp) W hp) rfl) ?_
  refine wl_pure Tryz.hT rfl rfl rfl ?_
  refine wl_indexAddr Tryz.hT rfl rfl rfl rfl rfl rfl rfl (by omega) (by omega) ?_
  refine wl_load rfl rfl rfl rfl (fun W hp => RowAt.load 0 Tryz.hT rfl ((fun W hp => (hrq j hj).hp hp) W hp) rfl) ?_
  refine wl_call1 rfl rfl rfl rfl rfl rfl (by kernel_rfl) (fun W _ => rangedR_gives (sd (rg rs r) j) W) ?_
  refine wl_pure Tryz.hT rfl rfl rfl ?_
  refine wl_nil ?_
  refine zE ?_
  refine wc_cond rfl (fun h => ?_) (fun h => ?_)
  · have h2 : rgd (sd (rg rs r) j) = false := by simpa using h
    have hyes : rs.flatten.any (fun s => !rgd s) = true := List.any_eq_true.2 ⟨sd (rg rs r) j, List.mem_flatten.2 ⟨rg rs r, List.mem_of_getElem? (rg_get hr), List.mem_of_getElem? (sd_get hj)⟩, by rw [h2]; rfl⟩
    refine zA ?_
    refine zB ?_
    refine wl_buildZ Tryz.hZ Tryz.hT rfl rfl rfl rfl rfl rfl rfl rfl ?_
    refine wl_storeBx 1 Tryz.hT rfl rfl rfl rfl rfl rfl rfl rfl rfl rfl rfl ?_
    refine wl_pure Tryz.hT rfl rfl rfl ?_
    refine wl_nil ?_
    refine zE ?_
    refine zO ?_
    refine zQ ?_
    iterate 2 refine zP ?_
    iterate 2 refine zQ ?_
    iterate 2 refine zP ?_
    refine zQ ?_
    refine zP ?_
    exact ne_ret2 Tryz.hT rfl (.cell 1 rfl rfl rfl rfl rfl) (.tmp rfl) () (by rw [if_pos hyes]; rfl) trivial fun W _ => NewBx.nil _ _
  have h2 : rgd (sd (rg rs r) j) = true := by simpa using h
  clear h
  refine zI ?_
  refine zN ?_
  refine zE ?_
  refine zB ?_
  iterate 3 refine wl_pure Tryz.hT rfl rfl rfl ?_
  refine wl_nil ?_
  refine ne_loop (j + 1) ⟨hj, fun i hi => ?_⟩ (by omega) ⟨rfl, rfl, rfl, congrArg (fun z => some (Value.int .i64 z)) (wrap_id (x := (j : Int) + 1) (by omega) (by omega)), trivial⟩ [] rfl
  by_cases e : i = j
  · rw [e]; exact h2
  · exact hup i (by omega)
end Go.Proofs.YtnpfkmbcejgnjaaGreatDoor
namespace Go.Proofs.YtnpfkmbcejgnjaaGreatDoor
open Go Go.RowKit Go.Am
set_option maxRecDepth 10000
-- BOXES 8
/-- How many quarter turns. -/
def qn (n : Int) : Int := Int.tmod (w64 (Int.tmod n 4 + 4)) 4
def rotN : Nat → List (List Sd) → List (List Sd)
  | 0, rs => rs
  | k + 1, rs => mvR rotF (rotN k rs)
def rotV (rs : List (List Sd)) (n : Nat) : List (List Sd) := mvR (homF (lstL (rotN n rs).flatten).1 (lstL (rotN n rs).flatten).2 (lstL rs.flatten).1 (lstL rs.flatten).2) (rotN n rs)
theorem rotN_len (n : Nat) (rs : List (List Sd)) : (rotN n rs).length = rs.length := by
  induction n with
  | zero => rfl
  | succ n ih => show (mvR rotF (rotN n rs)).length = _; rw [mvR_len, ih]
theorem rotN_tot (n : Nat) (rs : List (List Sd)) : tot (rotN n rs) = tot rs := by
  induction n with
  | zero => rfl
  | succ n ih => show tot (mvR rotF (rotN n rs)) = _; rw [tot_mvR, ih]
theorem rotN_ne {rs : List (List Sd)} (h : ∀ l ∈ rs, l ≠ []) : ∀ n, ∀ l ∈ rotN n rs, l ≠ []
  | 0 => h
  | n + 1 => mvR_ne (rotN_ne h n)
/-- A plan on the way: the one that came in, or one that was made. -/
abbrev Way := Option (Vec × Made)
def wayV (v : Value) (n : Nat) : Way → Value
  | none => v
  | some x => x.1.val n
def wayA : Way → Bx
  | none => gone
  | some x => x.1.bx 27 (rowCells x.2)
def wayB : Way → Bx
  | none => gone
  | some x => mkB x.2
def wayOK (rs : List (List Sd)) (k : Nat) : Way → Prop
  | none => k = 0
  | some x => MadeOK x.2 (rotN k rs) ∧ x.1.OK 1 rs.length (rowCells x.2)
theorem way_rings {W0 : World} {p : Option Addr} {cap : Nat} {rs : List (List Sd)} (hR : RingsP W0 p rs) {k : Nat} {y : Way} (h : wayOK rs k y) :
    ∃ q cq, wayV (slv p rs.length cap) rs.length y = slv q (rotN k rs).length cq ∧ ∀ {W : World} {bxs : List Bx}, Hp W0 bxs W → ∀ i j, nth bxs i = some (wayA y) → nth bxs j = some (wayB y) → RingsP W q (rotN k rs) := by
  cases y with
  | none =>
    obtain rfl : k = 0 := h
    exact ⟨p, cap, rfl, fun hp _ _ _ _ => hR.hp hp⟩
  | some x =>
    obtain ⟨V, mk⟩ := x
    obtain ⟨h1, h2⟩ : MadeOK mk (rotN k rs) ∧ V.OK 1 rs.length (rowCells mk) := h
    have h2' : V.OK 1 (rotN k rs).length (rowCells mk) := by rw [rotN_len]; exact h2
    obtain ⟨q, cq, e1, e2⟩ := made_rings h1 h2'
    exact ⟨q, cq, by rw [← e1, rotN_len]; rfl, fun hp i j hi hj => e2 hp i j hi hj⟩
theorem ne_pick {r : Nat} {D : List Deferred} {Q : Exit → Act → World → Prop} {e : Exit} {env : Env} {W0 : World} {bxs bxs' : List Bx} (s : List Nat) (hs : s.Nodup) (hp : pick bxs s = some bxs') (h : NE r D Q e env (Hp W0 bxs')) : NE r D Q e env (Hp W0 bxs) :=
  .mk fun a W ha hd hh => h.out a W ha hd (hh.pick s hs hp)
/-- Where a plan lies that is rotated. -/
def rotX (rs : List (List Sd)) : Way → Value
  | none => .tuple #[noPlan, .int .i64 2]
  | some x => .tuple #[.agg #[x.1.val rs.length], .int .i64 0]
def rotOK (rs : List (List Sd)) (n : Nat) : Way → Prop
  | none => (rotV rs n).flatten.any (fun s => !rgd s) = true
  | some x => (rotV rs n).flatten.any (fun s => !rgd s) = false ∧ MadeOK x.2 (rotV rs n) ∧ x.1.OK 1 rs.length (rowCells x.2)
def rotB : Way → List Bx
  | none => []
  | some x => [x.1.bx 27 (rowCells x.2), mkB x.2]
theorem qn_lt (n : Int) : 0 ≤ qn n ∧ qn n < 4 := by
  have h1 : -4 < Int.tmod n 4 := by have := Int.lt_tmod_of_pos n (show (0 : Int) < 4 by decide); omega
  have h2 : Int.tmod n 4 < 4 := Int.tmod_lt_of_pos n (by decide)
  unfold qn
  rw [w64_id (by omega) (by omega)]
  exact ⟨Int.tmod_nonneg _ (by omega), Int.tmod_lt_of_pos _ (by decide)⟩
set_option maxHeartbeats 4000000 in
theorem rotate_gives (W : World) (p : Option Addr) (cap : Nat) (rs : List (List Sd)) (n : Int) (hn : rs.length < 1099511627776) (hR : RingsP W p rs) (hc : chk rs = 0) :
    CallsR Tryz.prog 28 #[planV p rs.length cap, .int .i64 n] W (rotX rs) (rotOK rs (qn n).toNat) rotB := by
  obtain ⟨hne, hT24, h0⟩ := chk_ne hc
  have hT : tot rs < 1099511627776 := by omega
  refine calls_enter (args := [planV p rs.length cap, .int .i64 n]) Tryz.func28 rfl rfl rfl ?_
  refine zA ?_
  refine zB ?_
  (refine wl_box rfl rfl rfl rfl ?_; intro)
  (refine wl_allocZ Tryz.hZ rfl rfl rfl rfl ?_; intro)
  refine wl_pure Tryz.hT rfl rfl rfl ?_
  refine wl_nil ?_
  rename_i b2 b4
  refine zE ?_
  iterate 2 refine zA ?_
  refine zB ?_
  refine wl_loadBx 0 Tryz.hT rfl rfl rfl rfl rfl rfl rfl rfl ?_
  refine wl_call1 rfl rfl rfl rfl rfl rfl (by kernel_rfl) (fun W hp => (check_gives W p cap rs (by omega) hT (hR.hp hp)).cast (by rw [hc])) ?_
  refine wl_pure Tryz.hT rfl rfl rfl ?_
  refine wl_nil ?_
  refine zE ?_
  refine zS rfl ?_
  refine zI ?_
  refine zE ?_
  refine wc_seq ?_
  refine wc_lateS (X := Nat × Nat) (fun x => [(1, .int .i64 n), (4, .pointer (some ⟨b4, 0, none⟩)), (5, .int .i64 0), (6, .pointer (some ⟨x.1, 0, none⟩)), (7, .pointer (some ⟨x.2, 0, none⟩))])
    (fun x => [⟨b2, 24, [slv p rs.length cap], true, none⟩, ⟨b4, 24, [slv none 0 0], true, none⟩, ⟨x.1, 87, [.int .i64 (lstL rs.flatten).1, .int .i64 (lstL rs.flatten).2], true, none⟩, ⟨x.2, 24, [slv p rs.length cap], true, none⟩]) 4 Tryz.mixed (by kernel_rfl) ?_ ?_
  · refine wq_loadBx 0 Tryz.hT rfl rfl rfl rfl rfl rfl rfl rfl ?_
    refine wq_call1 rfl rfl rfl rfl rfl rfl (by kernel_rfl) (fun W hp => least_gives W p cap rs (by omega) hT h0 (hR.hp hp) hne) ?_
    refine wq_loadBx 0 Tryz.hT rfl rfl rfl rfl rfl rfl rfl rfl ?_
    refine wq_wt ?_
    refine wt_step rfl rfl (by ((repeat (first | refine Weak.same ?_ | refine Weak.off rfl ?_)); exact trivial)) ?_
    refine RS.cons ?_ (RS.cons ?_ (RS.nil))
    · refine wl_allocZ Tryz.hZ rfl rfl rfl rfl ?_; intro b6
      refine wl_nil ?_
      refine ne_wt ?_
      refine wt_step rfl rfl (by ((repeat (first | refine Weak.same ?_ | refine Weak.off rfl ?_)); exact trivial)) ?_
      refine RS.cons ?_ (RS.nil)
      refine wl_allocZ Tryz.hZ rfl rfl rfl rfl ?_; intro b7
      refine wl_nil ?_
      refine ne_wt ?_
      refine wt_step rfl rfl (by ((repeat (first | refine Weak.same ?_ | refine Weak.off rfl ?_)); exact trivial)) ?_
      refine RS.cons ?_ (RS.nil)
      refine wl_storeBx 2 Tryz.hT rfl rfl rfl rfl rfl rfl rfl rfl rfl rfl rfl ?_
      refine wl_nil ?_
      refine ne_wt ?_
      refine wt_step rfl rfl (by ((repeat (first | refine Weak.same ?_ | refine Weak.off rfl ?_)); exact trivial)) ?_
      refine RS.cons ?_ (RS.nil)
      refine wl_storeBx 3 Tryz.hT rfl rfl rfl rfl rfl rfl rfl rfl rfl rfl rfl ?_
      refine wl_nil ?_
      refine ne_wt ?_
      (first | refine wt_done rfl (by ((repeat (first | refine Weak.same ?_ | refine Weak.off rfl ?_)); exact trivial)) ?_ | refine wt_doneF rfl (by kernel_rfl) ?_); (first | exact ne_late (b6, b7) ⟨rfl, rfl, rfl, rfl, rfl, trivial⟩ [0, 1, 2, 3] (by decide) rfl | exact ne_late (b6, b7) ⟨rfl, rfl, rfl, rfl, rfl, trivial⟩ [0, 1, 3, 2] (by decide) rfl)
    · refine wl_allocZ Tryz.hZ rfl rfl rfl rfl ?_; intro b7
      refine wl_nil ?_
      refine ne_wt ?_
      refine wt_step rfl rfl (by ((repeat (first | refine Weak.same ?_ | refine Weak.off rfl ?_)); exact trivial)) ?_
      refine RS.cons ?_ (RS.nil)
      refine wl_allocZ Tryz.hZ rfl rfl rfl rfl ?_; intro b6
      refine wl_nil ?_
      refine ne_wt ?_
      refine wt_step rfl rfl (by ((repeat (first | refine Weak.same ?_ | refine Weak.off rfl ?_)); exact trivial)) ?_
      refine RS.cons ?_ (RS.nil)
      refine wl_storeBx 3 Tryz.hT rfl rfl rfl rfl rfl rfl rfl rfl rfl rfl rfl ?_
      refine wl_nil ?_
      refine ne_wt ?_
      refine wt_step rfl rfl (by ((repeat (first | refine Weak.same ?_ | refine Weak.off rfl ?_)); exact trivial)) ?_
      refine RS.cons ?_ (RS.nil)
      refine wl_storeBx 2 Tryz.hT rfl rfl rfl rfl rfl rfl rfl rfl rfl rfl rfl ?_
      refine wl_nil ?_
      refine ne_wt ?_
      (first | refine wt_done rfl (by ((repeat (first | refine Weak.same ?_ | refine Weak.off rfl ?_)); exact trivial)) ?_ | refine wt_doneF rfl (by kernel_rfl) ?_); (first | exact ne_late (b6, b7) ⟨rfl, rfl, rfl, rfl, rfl, trivial⟩ [0, 1, 2, 3] (by decide) rfl | exact ne_late (b6, b7) ⟨rfl, rfl, rfl, rfl, rfl, trivial⟩ [0, 1, 3, 2] (by decide) rfl)
  rintro ⟨b6, b7⟩
  refine zE ?_
  iterate 2 refine zA ?_
  refine zB ?_
  refine wl_pure Tryz.hT rfl rfl rfl ?_
  refine wl_rem rfl rfl rfl rfl rfl (by decide) ?_
  refine wl_pure Tryz.hT rfl rfl rfl ?_
  refine wl_rem rfl rfl rfl rfl rfl (by decide) ?_
  refine wl_pure Tryz.hT rfl rfl rfl ?_
  refine wl_nil ?_
  obtain ⟨hq0, hq4⟩ := qn_lt n
  have hqn : qn n = ((qn n).toNat : Int) := by omega
  refine ne_then ?_
  refine wc_upd 19 (.int .i64 ((qn n).toNat : Int)) rfl (congrArg (Value.int .i64) hqn) ?_
  generalize (qn n).toNat = m at hqn ⊢
  refine zH ?_
  iterate 2 refine wc_newGone ?_
  refine wc_loop (X := Nat × Way) (fun x => [(4, .pointer (some ⟨b4, 0, none⟩)), (5, .int .i64 0), (6, .pointer (some ⟨b6, 0, none⟩)), (7, .pointer (some ⟨b7, 0, none⟩)), (19, .int .i64 (m : Nat)), (20, .int .i64 (x.1 : Nat))])
    (fun x => [⟨b2, 24, [slv p rs.length cap], true, none⟩, ⟨b4, 24, [slv none 0 0], true, none⟩, ⟨b6, 87, [.int .i64 (lstL rs.flatten).1, .int .i64 (lstL rs.flatten).2], true, none⟩, ⟨b7, 24, [wayV (slv p rs.length cap) rs.length x.2], true, none⟩, wayA x.2, wayB x.2])
    (fun x => x.1 ≤ m ∧ wayOK rs x.1 x.2) (fun x => m - x.1) (0, none) ⟨Nat.zero_le _, rfl⟩ ⟨rfl, rfl, rfl, rfl, rfl, rfl, trivial⟩ [] rfl ?_
  rintro ⟨k, y⟩ ⟨hk0, hy0⟩
  have hk : k ≤ m := hk0
  have hy : wayOK rs k y := hy0
  clear hk0 hy0
  obtain ⟨q, cq, eV, hq⟩ := way_rings (p := p) (cap := cap) hR hy
  refine zA ?_
  refine zB ?_
  refine wl_pure Tryz.hT rfl rfl rfl ?_
  refine wl_nil ?_
  refine zE ?_
  refine zA ?_
  refine wc_cond rfl (fun h => ?_) (fun h => ?_)
  · have hk : k < m := by simp at h; omega
    clear h
    refine zI ?_
    refine zE ?_
    refine zA ?_
    refine zH ?_
    refine zB ?_
    refine wl_loadBx 3 Tryz.hT rfl rfl rfl rfl rfl rfl rfl rfl ?_
    refine wl_upd 22 (planV q (rotN k rs).length cq) rfl (congrArg (fun v => Value.agg #[v]) eV) ?_
    refine wl_call (X := Vec × Made) rfl rfl rfl rfl rfl rfl (by kernel_rfl) (fun W hp => moved_gives 73 (by kernel_rfl) [] rotF W q cq (rotN k rs) (by rw [rotN_len]; exact hn) (by rw [rotN_tot]; exact hT) (hq hp 4 5 rfl rfl) (rotN_ne hne k) (fun W' _ x y => rot1_gives x y W')) ?_
    rintro ⟨V, mk⟩ ⟨hmk, hV⟩
    have hV' : V.OK 1 rs.length (rowCells mk) := by rw [rotN_len] at hV; exact hV
    obtain ⟨q', c', e'⟩ := vec_val_slv hV'
    refine wl_upd 23 (planV q' rs.length c') rfl (congrArg (fun v => Value.agg #[v]) (by rw [rotN_len]; exact e')) ?_
    refine wl_storeBx 3 Tryz.hT rfl rfl rfl rfl rfl rfl rfl rfl rfl rfl rfl ?_
    refine wl_nil ?_
    refine zN ?_
    refine zE ?_
    refine zB ?_
    iterate 2 refine wl_pure Tryz.hT rfl rfl rfl ?_
    refine wl_nil ?_
    refine ne_pick [0, 1, 2, 3, 6, 7] (by decide) rfl ?_
    exact ne_loop (k + 1, some (V, mk)) ⟨hk, hmk, hV'⟩ (by show m - (k + 1) < m - k; omega) ⟨rfl, rfl, rfl, rfl, rfl, congrArg (fun z => some (Value.int .i64 z)) (wrap_id (x := (k : Int) + 1) (by omega) (by omega)), trivial⟩ [] (by show _ = [_, _, _, (⟨b7, 24, [V.val rs.length], true, none⟩ : Bx), _, _] ++ []; rw [e']; rfl)
  · have e : k = m := by simp at h; omega
    subst e
    clear h
    refine zJ ?_
    iterate 2 refine zK ?_
    refine zL ?_
    refine zE ?_
    refine zA ?_
    refine zB ?_
    refine wl_loadBx 3 Tryz.hT rfl rfl rfl rfl rfl rfl rfl rfl ?_
    refine wl_upd 25 (planV q (rotN k rs).length cq) rfl (congrArg (fun v => Value.agg #[v]) eV) ?_
    refine wl_call1 rfl rfl rfl rfl rfl rfl (by kernel_rfl) (fun W hp => least_gives W q cq (rotN k rs) (by rw [rotN_len]; omega) (by rw [rotN_tot]; exact hT) (by rw [rotN_tot]; exact h0) (hq hp 4 5 rfl rfl) (rotN_ne hne k)) ?_
    (refine wl_allocZ Tryz.hZ rfl rfl rfl rfl ?_; intro)
    refine wl_storeBx 6 Tryz.hT rfl rfl rfl rfl rfl rfl rfl rfl rfl rfl rfl ?_
    refine wl_nil ?_
    rename_i b8
    refine zE ?_
    refine zA ?_
    refine zB ?_
    refine wl_loadBx 3 Tryz.hT rfl rfl rfl rfl rfl rfl rfl rfl ?_
    refine wl_pure Tryz.hT rfl rfl rfl ?_
    refine wl_upd 27 (planV q (rotN k rs).length cq) rfl (congrArg (fun v => Value.agg #[v]) eV) ?_
    refine wl_call (X := Vec × Made) rfl rfl rfl rfl rfl rfl (by kernel_rfl) (fun W hp => moved_gives 74 (by kernel_rfl) [.pointer (some ⟨b8, 0, none⟩), .pointer (some ⟨b6, 0, none⟩)] (homF (lstL (rotN k rs).flatten).1 (lstL (rotN k rs).flatten).2 (lstL rs.flatten).1 (lstL rs.flatten).2) W q cq (rotN k rs) (by rw [rotN_len]; exact hn) (by rw [rotN_tot]; exact hT) (hq hp 4 5 rfl rfl) (rotN_ne hne k) (fun W' hb x y => rot2_gives _ _ _ _ x y W' b8 b6 ((RowAt.of_bx hp 6 rfl rfl).below (Nat.le_refl _) hb) ((RowAt.of_bx hp 2 rfl rfl).below (Nat.le_refl _) hb))) ?_
    rintro ⟨V, mk⟩ ⟨hmk, hV⟩
    have hmk : MadeOK mk (rotV rs k) := hmk
    have hl : (rotV rs k).length = rs.length := by unfold rotV; rw [mvR_len, rotN_len]
    have hV' : V.OK 1 (rotV rs k).length (rowCells mk) := by rw [hl]; rw [rotN_len] at hV; exact hV
    obtain ⟨q2, cq2, eV2, hrings⟩ := made_rings hmk hV'
    refine wl_upd 29 (planV q2 (rotV rs k).length cq2) rfl (congrArg (fun v => Value.agg #[v]) (by rw [← eV2, hl, rotN_len])) ?_
    refine wl_call1 rfl rfl rfl rfl rfl rfl (by kernel_rfl) (fun W hp => bounded_gives W q2 cq2 (rotV rs k) (by rw [hl]; omega) (by unfold rotV; rw [tot_mvR, rotN_tot]; exact hT) (hrings hp 7 8 rfl rfl) (by unfold rotV; exact mvR_ne (rotN_ne hne k))) ?_
    cases hr : (rotV rs k).flatten.any (fun s => !rgd s) with
    | true =>
      refine wl_upd 30 (.tuple #[noPlan, .int .i64 2]) rfl (by rw [if_pos rfl]) ?_
      iterate 2 refine wl_pure Tryz.hT rfl rfl rfl ?_
      refine wl_storeBx 1 Tryz.hT rfl rfl rfl rfl rfl rfl rfl rfl rfl rfl rfl ?_
      refine wl_pure Tryz.hT rfl rfl rfl ?_
      refine wl_nil ?_
      refine zE ?_
      refine zO ?_
      exact ne_ret2 Tryz.hT rfl (.cell 1 rfl rfl rfl rfl rfl) (.tmp rfl) none rfl hr fun W _ => NewBx.nil _ _
    | false =>
      refine wl_upd 30 (.tuple #[planV q2 (rotV rs k).length cq2, .int .i64 0]) rfl (by rw [if_neg (by decide)]) ?_
      iterate 2 refine wl_pure Tryz.hT rfl rfl rfl ?_
      refine wl_storeBx 1 Tryz.hT rfl rfl rfl rfl rfl rfl rfl rfl rfl rfl rfl ?_
      refine wl_pure Tryz.hT rfl rfl rfl ?_
      refine wl_nil ?_
      refine zE ?_
      refine zO ?_
      exact ne_ret2 Tryz.hT rfl (.cell 1 rfl rfl rfl rfl rfl) (.tmp rfl) (some (V, mk)) (by show Value.tuple #[.agg #[slv q2 _ cq2], _] = .tuple #[.agg #[V.val rs.length], _]; rw [← eV2, hl]) ⟨hr, hmk, hl ▸ hV'⟩ fun W hp => (hp.pick [7, 8] (by decide) rfl).own
end Go.Proofs.YtnpfkmbcejgnjaaGreatDoor
namespace Go.Proofs.YtnpfkmbcejgnjaaGreatDoor
open Go Go.RowKit Go.Am
def qN : Nat → List (List Sd) → List (List Sd)
  | 0, rs => rs
  | n + 1, rs => qtR (qN n rs)
theorem lst_fold_le : ∀ (l : List Sd) (q : Int × Int), (l.foldl lstF q).1 ≤ q.1 ∧ (l.foldl lstF q).2 ≤ q.2 ∧ (∀ s ∈ l, (l.foldl lstF q).1 ≤ s.x ∧ (l.foldl lstF q).2 ≤ s.y) ∧
    ((l.foldl lstF q).1 = q.1 ∨ ∃ s ∈ l, (l.foldl lstF q).1 = s.x) ∧ ((l.foldl lstF q).2 = q.2 ∨ ∃ s ∈ l, (l.foldl lstF q).2 = s.y)
  | [], q => ⟨Int.le_refl _, Int.le_refl _, (fun s hs => by cases hs), .inl rfl, .inl rfl⟩
  | s :: l, q => by
    obtain ⟨h1, h2, h3, h4, h5⟩ := lst_fold_le l (lstF q s)
    have e : (s :: l).foldl lstF q = l.foldl lstF (lstF q s) := rfl
    have f1 : (lstF q s).1 = if s.x < q.1 then s.x else q.1 := rfl
    have f2 : (lstF q s).2 = if s.y < q.2 then s.y else q.2 := rfl
    rw [e]
    refine ⟨by rw [f1] at h1; split at h1 <;> omega, by rw [f2] at h2; split at h2 <;> omega, fun t ht => ?_, ?_, ?_⟩
    · rcases List.mem_cons.1 ht with rfl | ht
      · exact ⟨by rw [f1] at h1; split at h1 <;> omega, by rw [f2] at h2; split at h2 <;> omega⟩
      · exact h3 t ht
    · rcases h4 with h4 | ⟨t, ht, h4⟩
      · rw [f1] at h4
        split at h4
        · exact .inr ⟨s, .head _, h4⟩
        · exact .inl h4
      · exact .inr ⟨t, .tail _ ht, h4⟩
    · rcases h5 with h5 | ⟨t, ht, h5⟩
      · rw [f2] at h5
        split at h5
        · exact .inr ⟨s, .head _, h5⟩
        · exact .inl h5
      · exact .inr ⟨t, .tail _ ht, h5⟩
/-- The least coordinates are of sides, and no side lies below. -/
theorem lst_least {l : List Sd} (h : 0 < l.length) : (∀ s ∈ l, (lstL l).1 ≤ s.x ∧ (lstL l).2 ≤ s.y) ∧ (∃ s ∈ l, (lstL l).1 = s.x) ∧ ∃ s ∈ l, (lstL l).2 = s.y := by
  obtain ⟨_, _, h3, h4, h5⟩ := lst_fold_le l ((sd l 0).x, (sd l 0).y)
  have hm : sd l 0 ∈ l := List.mem_of_getElem? (sd_get h)
  refine ⟨h3, ?_, ?_⟩
  · rcases h4 with h4 | h4
    · exact ⟨_, hm, h4⟩
    · exact h4
  · rcases h5 with h5 | h5
    · exact ⟨_, hm, h5⟩
    · exact h5
theorem map_id2 {f : Sd → Sd} (h : ∀ s, f s = s) (rs : List (List Sd)) : rs.map (·.map f) = rs := by
  have : (fun l : List Sd => l.map f) = id := funext fun l => by
    show l.map f = l
    rw [show f = id from funext h, List.map_id]
  rw [this, List.map_id]
theorem trR_zero' (rs : List (List Sd)) : trR 0 0 rs = rs := map_id2 (fun s => by unfold tr; cases s; simp) rs
theorem qN_allR {rs : List (List Sd)} (h : allR rs) : ∀ n, allR (qN n rs)
  | 0 => h
  | n + 1 => fun l hl s hs => by
    obtain ⟨m, hm, rfl⟩ := List.mem_map.1 hl
    obtain ⟨t, ht, rfl⟩ := List.mem_map.1 hs
    exact inR_q (qN_allR h n m hm t ht)
theorem mvR_eq {f : Int → Int → Int × Int} {g : Sd → Sd} {rs : List (List Sd)} (h : ∀ l ∈ rs, ∀ s ∈ l, mvS f s = g s) : mvR f rs = rs.map (·.map g) := by
  unfold mvR
  apply List.map_congr_left
  intro l hl
  apply List.map_congr_left
  intro s hs
  exact h l hl s hs
theorem rotN_eq {rs : List (List Sd)} (h : allR rs) : ∀ n, ∃ a b, -65536 ≤ a ∧ a ≤ 0 ∧ -65536 ≤ b ∧ b ≤ 0 ∧ rotN n rs = trR a b (qN n rs)
  | 0 => ⟨0, 0, by decide, by decide, by decide, by decide, (trR_zero' rs).symm⟩
  | n + 1 => by
    obtain ⟨a, b, h1, h2, h3, h4, e⟩ := rotN_eq h n
    refine ⟨-65536 - b, a, by omega, by omega, by omega, by omega, ?_⟩
    show mvR rotF (rotN n rs) = trR (-65536 - b) a (qtR (qN n rs))
    rw [e]
    have h5 : mvR rotF (trR a b (qN n rs)) = (trR a b (qN n rs)).map (·.map fun s => { s with x := 0 - s.y, y := s.x }) := by
      refine mvR_eq fun l hl s hs => ?_
      obtain ⟨m, hm, rfl⟩ := List.mem_map.1 hl
      obtain ⟨t, ht, rfl⟩ := List.mem_map.1 hs
      obtain ⟨t1, t2, t3, t4⟩ := qN_allR h n m hm t ht
      show (⟨w64 (0 - (t.y + b)), t.x + a, t.rise, t.run, t.gable, t.plate, t.over⟩ : Sd) = ⟨0 - (t.y + b), t.x + a, t.rise, t.run, t.gable, t.plate, t.over⟩
      rw [w64_id (by omega) (by omega)]
    rw [h5]
    unfold trR qtR
    rw [List.map_map, List.map_map]
    apply List.map_congr_left
    intro l _
    show (l.map (tr a b)).map _ = (l.map qt).map _
    rw [List.map_map, List.map_map]
    apply List.map_congr_left
    intro s _
    show (⟨0 - (s.y + b), s.x + a, s.rise, s.run, s.gable, s.plate, s.over⟩ : Sd) = ⟨65536 - s.y + (-65536 - b), s.x + a, s.rise, s.run, s.gable, s.plate, s.over⟩
    rw [show 0 - (s.y + b) = 65536 - s.y + (-65536 - b) by omega]
theorem lst_inR {rs : List (List Sd)} (h : allR rs) (h0 : tot rs ≠ 0) : 0 ≤ (lstL rs.flatten).1 ∧ (lstL rs.flatten).1 ≤ 65536 ∧ 0 ≤ (lstL rs.flatten).2 ∧ (lstL rs.flatten).2 ≤ 65536 := by
  obtain ⟨_, ⟨s, hs, e1⟩, ⟨t, ht, e2⟩⟩ := lst_least (l := rs.flatten) (by rw [flat_len]; omega)
  obtain ⟨l, hl, hs⟩ := List.mem_flatten.1 hs
  obtain ⟨m, hm, ht⟩ := List.mem_flatten.1 ht
  obtain ⟨s1, s2, _, _⟩ := h l hl s hs
  obtain ⟨_, _, t3, t4⟩ := h m hm t ht
  omega
end Go.Proofs.YtnpfkmbcejgnjaaGreatDoor
namespace Go.Proofs.YtnpfkmbcejgnjaaGreatDoor
open Go Go.RowKit Go.Am
/-- A side without its place. -/
def bare (s : Sd) : Sd := { s with x := 0, y := 0 }
theorem chk_allR {rs : List (List Sd)} (h : chk rs = 0) : allR rs := fun l hl s hs => rgd_inR ((chk_parts h).1 l hl s hs)
structure Turned (rs x : List (List Sd)) : Prop where
  ok : chk x = 0
  len : x.length = rs.length
  area : areaN x = areaN rs
  flat : x.flatten.length = rs.flatten.length
  cvx : ∀ n : Int, 0 ≤ n → n < tot rs → ∃ b : Bool, cvxV x n = .tuple #[.bool b, .int .i64 0] ∧ cvxV rs n = .tuple #[.bool b, .int .i64 0]
  same : ∀ i, i < rs.flatten.length → bare (sd x.flatten i) = bare (sd rs.flatten i)
end Go.Proofs.YtnpfkmbcejgnjaaGreatDoor
namespace Go.Proofs.YtnpfkmbcejgnjaaGreatDoor
open Go Go.RowKit Go.Am
set_option maxRecDepth 10000
-- BOXES 4
-- BOXIDX t2=0 t4=1
theorem own_no (n : Nat) (W : World) : Go.Am.Own n [gone, mkB []] W := by
  have hb : ∀ (k : Nat) (B : Bx), [gone, mkB []][k]? = some B → B.blk = [] := fun k B h => by
    cases k with
    | zero => injection h with h; rw [← h]; rfl
    | succ k => cases k with
      | zero => injection h with h; rw [← h]; rfl
      | succ k => cases h
  refine ⟨fun k B h p hp => ?_, fun k B h => ?_, fun i j B C h _ _ p hp => ?_⟩
  · rw [hb k B h] at hp; cases hp
  · rw [hb k B h]; exact List.nodup_nil
  · rw [hb i B h] at hp; cases hp
/-- An error. -/
theorem outR_err {f : Nat} {args : Array Value} {W : World} {o : Out} {c : Int} (ho : o = ([], c)) (h : CallsR Tryz.prog f args W (fun _ : Unit => .tuple #[noPlan, .int .i64 c]) (fun _ => True) (fun _ => [])) : OutR f args W o := by
  subst ho
  exact ⟨h.out.mono fun e W' ⟨_, he, _, hb, _⟩ => ⟨(Vec.empty, []), he, ⟨⟨rfl, fun p hp => by cases hp⟩, Vec.OK.empty 1⟩, hb, own_no _ _⟩⟩
theorem outR_way {f : Nat} {args : Array Value} {W : World} {rs : List (List Sd)} {m : Nat} {o : Out} (hl : (rotV rs m).length = rs.length) (ho : o = if (rotV rs m).flatten.any (fun s => !rgd s) = true then ([], 2) else (rotV rs m, 0)) (h : CallsR Tryz.prog f args W (rotX rs) (rotOK rs m) rotB) : OutR f args W o := by
  subst ho
  refine ⟨h.out.mono fun e W' ⟨x, he, hx, hb, hw⟩ => ?_⟩
  cases x with
  | none =>
    have hx : (rotV rs m).flatten.any (fun s => !rgd s) = true := hx
    rw [if_pos hx]
    exact ⟨(Vec.empty, []), he, ⟨⟨rfl, fun p hp => by cases hp⟩, Vec.OK.empty 1⟩, hb, own_no _ _⟩
  | some x =>
    obtain ⟨V, mk⟩ := x
    obtain ⟨h1, h2, h3⟩ : (rotV rs m).flatten.any (fun s => !rgd s) = false ∧ MadeOK mk (rotV rs m) ∧ V.OK 1 rs.length (rowCells mk) := hx
    rw [if_neg (by rw [h1]; decide)]
    exact ⟨(V, mk), he.trans (by congr 1; show Value.tuple #[.agg #[V.val rs.length], .int .i64 0] = Value.tuple #[.agg #[V.val (rotV rs m).length], .int .i64 0]; rw [hl]), ⟨h2, by show V.OK 1 (rotV rs m).length _; rw [hl]; exact h3⟩, hb, hw⟩
theorem rotV_len (rs : List (List Sd)) (m : Nat) : (rotV rs m).length = rs.length := by unfold rotV; rw [mvR_len, rotN_len]
/-- What Rotate gives. -/
def rotO (rs : List (List Sd)) (n : Int) : Out := if chk rs ≠ 0 then ([], 1) else if (rotV rs (qn n).toNat).flatten.any (fun s => !rgd s) = true then ([], 2) else (rotV rs (qn n).toNat, 0)
theorem rotate_no (W : World) (p : Option Addr) (cap : Nat) (rs : List (List Sd)) (n : Int) (hn : rs.length < 1099511627776) (hT : tot rs < 1099511627776) (hR : RingsP W p rs) (hc : chk rs ≠ 0) :
    CallsR Tryz.prog 28 #[planV p rs.length cap, .int .i64 n] W (fun _ : Unit => .tuple #[noPlan, .int .i64 1]) (fun _ => True) (fun _ => []) := by
  refine calls_enter (args := [planV p rs.length cap, .int .i64 n]) Tryz.func28 rfl rfl rfl ?_
  refine zA ?_
  refine zB ?_
  (refine wl_box rfl rfl rfl rfl ?_; intro)
  (refine wl_allocZ Tryz.hZ rfl rfl rfl rfl ?_; intro)
  refine wl_pure Tryz.hT rfl rfl rfl ?_
  refine wl_nil ?_
  rename_i b2 b4
  refine zE ?_
  iterate 2 refine zA ?_
  refine zB ?_
  refine wl_loadBx 0 Tryz.hT rfl rfl rfl rfl rfl rfl rfl rfl ?_
  refine wl_call1 rfl rfl rfl rfl rfl rfl (by kernel_rfl) (fun W hp => check_gives W p cap rs (by omega) hT (hR.hp hp)) ?_
  refine wl_pure Tryz.hT rfl rfl rfl ?_
  refine wl_nil ?_
  refine zE ?_
  refine wc_cond rfl (fun h => ?_) (fun h => ?_)
  · refine zA ?_
    refine zB ?_
    refine wl_buildZ Tryz.hZ Tryz.hT rfl rfl rfl rfl rfl rfl rfl rfl ?_
    refine wl_storeBx 1 Tryz.hT rfl rfl rfl rfl rfl rfl rfl rfl rfl rfl rfl ?_
    refine wl_pure Tryz.hT rfl rfl rfl ?_
    refine wl_nil ?_
    refine zE ?_
    refine zO ?_
    refine zP ?_
    exact ne_ret2 Tryz.hT rfl (.cell 1 rfl rfl rfl rfl rfl) (.tmp rfl) () rfl trivial fun W _ => NewBx.nil _ _
  · exact absurd (show chk rs = 0 by have h' : (chk rs != 0) = false := h; simpa using h') hc
theorem rotateP_gives (W : World) (p : Option Addr) (cap : Nat) (rs : List (List Sd)) (n : Int) (hn : rs.length < 1099511627776) (hT : tot rs < 1099511627776) (hR : RingsP W p rs) : OutR 28 #[planV p rs.length cap, .int .i64 n] W (rotO rs n) := by
  by_cases hc : chk rs = 0
  · exact outR_way (rotV_len _ _) (by unfold rotO; rw [if_neg (fun h => h hc)]) (rotate_gives W p cap rs n hn hR hc)
  · exact outR_err (by unfold rotO; rw [if_pos hc]) (rotate_no W p cap rs n hn hT hR hc)
theorem rotN_small {rs : List (List Sd)} (h : allR rs) (n : Nat) : ∀ l ∈ rotN n rs, ∀ s ∈ l, -65536 ≤ s.x ∧ s.x ≤ 65536 ∧ -65536 ≤ s.y ∧ s.y ≤ 65536 := fun l hl s hs => by
  obtain ⟨a, b, h1, h2, h3, h4, e⟩ := rotN_eq h n
  rw [e] at hl
  obtain ⟨m, hm, rfl⟩ := List.mem_map.1 hl
  obtain ⟨t, ht, rfl⟩ := List.mem_map.1 hs
  obtain ⟨t1, t2, t3, t4⟩ := qN_allR h n m hm t ht
  show -65536 ≤ t.x + a ∧ t.x + a ≤ 65536 ∧ -65536 ≤ t.y + b ∧ t.y + b ≤ 65536
  omega
theorem lst_small {rs : List (List Sd)} (h : allR rs) (h0 : tot rs ≠ 0) (n : Nat) : -65536 ≤ (lstL (rotN n rs).flatten).1 ∧ (lstL (rotN n rs).flatten).1 ≤ 65536 ∧ -65536 ≤ (lstL (rotN n rs).flatten).2 ∧ (lstL (rotN n rs).flatten).2 ≤ 65536 := by
  obtain ⟨_, ⟨s, hs, e1⟩, ⟨t, ht, e2⟩⟩ := lst_least (l := (rotN n rs).flatten) (by rw [flat_len, rotN_tot]; omega)
  obtain ⟨l, hl, hs⟩ := List.mem_flatten.1 hs
  obtain ⟨m, hm, ht⟩ := List.mem_flatten.1 ht
  obtain ⟨s1, s2, _, _⟩ := rotN_small h n l hl s hs
  obtain ⟨_, _, t3, t4⟩ := rotN_small h n m hm t ht
  omega
theorem mvR_congr {f g : Int → Int → Int × Int} {rs : List (List Sd)} (h : ∀ l ∈ rs, ∀ s ∈ l, f s.x s.y = g s.x s.y) : mvR f rs = mvR g rs := by
  unfold mvR
  refine List.map_congr_left fun l hl => List.map_congr_left fun s hs => ?_
  unfold mvS
  rw [h l hl s hs]
theorem turn_aff {rs : List (List Sd)} (h : allR rs) (k : Nat) : mvR (affF 0 (-1) 1 0 0 0) (rotN k rs) = rotN (k + 1) rs := by
  refine mvR_congr fun l hl s hs => ?_
  obtain ⟨h1, h2, h3, h4⟩ := rotN_small h k l hl s hs
  unfold affF rotF
  rw [Int.zero_mul, Int.zero_mul, Int.one_mul, show (-1 : Int) * s.y = 0 - s.y by omega, w64_id (x := 0) (by omega) (by omega), w64_id (x := 0 - s.y) (by omega) (by omega), w64_id (x := s.x) (by omega) (by omega), w64_id (x := 0 + (0 - s.y)) (by omega) (by omega), w64_id (x := s.x + 0) (by omega) (by omega), w64_id (x := 0 + (0 - s.y) + 0) (by omega) (by omega), w64_id (x := s.x + 0 + 0) (by omega) (by omega)]
  congr 1 <;> omega
theorem home_aff {rs : List (List Sd)} (h : allR rs) (h0 : tot rs ≠ 0) (k : Nat) : mvR (affF 1 0 0 1 (w64 ((lstL rs.flatten).1 - (lstL (rotN k rs).flatten).1)) (w64 ((lstL rs.flatten).2 - (lstL (rotN k rs).flatten).2))) (rotN k rs) = rotV rs k := by
  obtain ⟨l1, l2, l3, l4⟩ := lst_inR h h0
  obtain ⟨q1, q2, q3, q4⟩ := lst_small h h0 k
  refine mvR_congr fun l hl s hs => ?_
  obtain ⟨h1, h2, h3, h4⟩ := rotN_small h k l hl s hs
  generalize (lstL rs.flatten).1 = X at *
  generalize (lstL rs.flatten).2 = Y at *
  generalize (lstL (rotN k rs).flatten).1 = U at *
  generalize (lstL (rotN k rs).flatten).2 = V at *
  unfold affF homF
  rw [Int.zero_mul, Int.zero_mul, Int.one_mul, Int.one_mul, w64_id (x := 0) (by omega) (by omega), w64_id (x := s.x) (by omega) (by omega), w64_id (x := s.y) (by omega) (by omega), w64_id (x := X - U) (by omega) (by omega), w64_id (x := Y - V) (by omega) (by omega), w64_id (x := s.x + 0) (by omega) (by omega), w64_id (x := 0 + s.y) (by omega) (by omega), w64_id (x := s.x + 0 + (X - U)) (by omega) (by omega), w64_id (x := 0 + s.y + (Y - V)) (by omega) (by omega),
    w64_id (x := s.x - U) (by omega) (by omega), w64_id (x := s.y - V) (by omega) (by omega), w64_id (x := s.x - U + X) (by omega) (by omega), w64_id (x := s.y - V + Y) (by omega) (by omega)]
  congr 1 <;> omega
set_option maxHeartbeats 8000000 in
theorem rotateR_ok (W : World) (p : Option Addr) (cap : Nat) (rs : List (List Sd)) (n : Int) (hn : rs.length < 1099511627776) (hR : RingsP W p rs) (hc : chk rs = 0) :
    CallsR Tryz.prog 41 #[planV p rs.length cap, .int .i64 n] W (rotX rs) (rotOK rs (qn n).toNat) rotB := by
  obtain ⟨hne, hT24, h0⟩ := chk_ne hc
  have hT : tot rs < 1099511627776 := by omega
  have hall := chk_allR hc
  refine calls_enter (args := [planV p rs.length cap, .int .i64 n]) Tryz.func41 rfl rfl rfl ?_
  refine zA ?_
  refine zB ?_
  (refine wl_box rfl rfl rfl rfl ?_; intro)
  (refine wl_allocZ Tryz.hZ rfl rfl rfl rfl ?_; intro)
  refine wl_pure Tryz.hT rfl rfl rfl ?_
  refine wl_nil ?_
  rename_i b2 b4
  refine zE ?_
  iterate 2 refine zA ?_
  refine zB ?_
  refine wl_loadBx 0 Tryz.hT rfl rfl rfl rfl rfl rfl rfl rfl ?_
  refine wl_call1 rfl rfl rfl rfl rfl rfl (by kernel_rfl) (fun W hp => (refChk_gives W p cap rs (by omega) hT (hR.hp hp)).cast (by rw [hc])) ?_
  refine wl_pure Tryz.hT rfl rfl rfl ?_
  refine wl_nil ?_
  refine zE ?_
  refine zS rfl ?_
  refine zI ?_
  refine zE ?_
  refine zA ?_
  refine zB ?_
  refine wl_loadBx 0 Tryz.hT rfl rfl rfl rfl rfl rfl rfl rfl ?_
  refine wl_call1 rfl rfl rfl rfl rfl rfl (by kernel_rfl) (fun W hp => leastR_gives W p cap rs (by omega) hT h0 (hR.hp hp) hne) ?_
  iterate 5 refine wl_pure Tryz.hT rfl rfl rfl ?_
  refine wl_nil ?_
  refine zE ?_
  refine zA ?_
  refine zB ?_
  refine wl_pure Tryz.hT rfl rfl rfl ?_
  refine wl_rem rfl rfl rfl rfl rfl (by decide) ?_
  refine wl_pure Tryz.hT rfl rfl rfl ?_
  refine wl_rem rfl rfl rfl rfl rfl (by decide) ?_
  obtain ⟨hq0, hq4⟩ := qn_lt n
  have hqn : qn n = ((qn n).toNat : Int) := by omega
  refine wl_upd 24 (.int .i64 ((qn n).toNat : Int)) rfl (congrArg (Value.int .i64) hqn) ?_
  generalize (qn n).toNat = m at hqn ⊢
  refine wl_pure Tryz.hT rfl rfl rfl ?_
  refine wl_nil ?_
  refine zE ?_
  iterate 2 refine zA ?_
  refine zB ?_
  refine wl_pure Tryz.hT rfl rfl rfl ?_
  refine wl_nil ?_
  refine zE ?_
  refine zH ?_
  iterate 2 refine wc_newGone ?_
  refine wc_loop (X := Nat × Way) (fun x => [(2, .pointer (some ⟨b2, 0, none⟩)), (4, .pointer (some ⟨b4, 0, none⟩)), (6, .int .i64 (lstL rs.flatten).1), (7, .int .i64 (lstL rs.flatten).2), (8, .int .i64 (m : Nat)), (9, .int .i64 (x.1 : Nat))])
    (fun x => [⟨b2, 24, [wayV (slv p rs.length cap) rs.length x.2], true, none⟩, ⟨b4, 24, [slv none 0 0], true, none⟩, wayA x.2, wayB x.2])
    (fun x => x.1 ≤ m ∧ wayOK rs x.1 x.2) (fun x => m - x.1) (0, none) ⟨Nat.zero_le _, rfl⟩ ⟨rfl, rfl, rfl, rfl, rfl, rfl, trivial⟩ [] rfl ?_
  rintro ⟨k, y⟩ ⟨hk0, hy0⟩
  have hk : k ≤ m := hk0
  have hy : wayOK rs k y := hy0
  clear hk0 hy0
  obtain ⟨q, cq, eV, hq⟩ := way_rings (p := p) (cap := cap) hR hy
  iterate 2 refine zA ?_
  refine zB ?_
  iterate 3 refine wl_pure Tryz.hT rfl rfl rfl ?_
  refine wl_nil ?_
  refine zE ?_
  refine wc_cond rfl (fun h => ?_) (fun h => ?_)
  · have hk : k < m := by have h' : decide ((k : Int) < (m : Nat)) = true := h; rw [decide_eq_true_iff] at h'; omega
    clear h
    refine zI ?_
    refine zE ?_
    refine zA ?_
    refine zH ?_
    refine zB ?_
    refine wl_loadBx 0 Tryz.hT rfl rfl rfl rfl rfl rfl rfl rfl ?_
    refine wl_upd 30 (planV q (rotN k rs).length cq) rfl (congrArg (fun v => Value.agg #[v]) eV) ?_
    refine wl_call (X := Vec × Made) rfl rfl rfl rfl rfl rfl (by kernel_rfl) (fun W hp => movedR_gives W q cq (rotN k rs) 0 (-1) 1 0 0 0 (by rw [rotN_len]; exact hn) (by rw [rotN_tot]; exact hT) (hq hp 2 3 rfl rfl) (rotN_ne hne k)) ?_
    rintro ⟨V, mk⟩ ⟨hmk, hV⟩
    have hmk : MadeOK mk (rotN (k + 1) rs) := by rw [← turn_aff hall]; exact hmk
    have hV' : V.OK 1 rs.length (rowCells mk) := by rw [rotN_len] at hV; exact hV
    obtain ⟨q', c', e'⟩ := vec_val_slv hV'
    refine wl_upd 31 (planV q' rs.length c') rfl (congrArg (fun v => Value.agg #[v]) (by rw [rotN_len]; exact e')) ?_
    refine wl_storeBx 0 Tryz.hT rfl rfl rfl rfl rfl rfl rfl rfl rfl rfl rfl ?_
    refine wl_nil ?_
    refine zN ?_
    refine zE ?_
    refine zB ?_
    iterate 3 refine wl_pure Tryz.hT rfl rfl rfl ?_
    refine wl_nil ?_
    refine ne_pick [0, 1, 4, 5] (by decide) rfl ?_
    exact ne_loop (k + 1, some (V, mk)) ⟨hk, hmk, hV'⟩ (by show m - (k + 1) < m - k; omega) ⟨rfl, rfl, rfl, rfl, rfl, congrArg (fun z => some (Value.int .i64 z)) (wrap_id (x := (k : Int) + 1) (by omega) (by omega)), trivial⟩ [] (by show _ = [(⟨b2, 24, [V.val rs.length], true, none⟩ : Bx), _, _, _] ++ []; rw [e']; rfl)
  have e : k = m := by have h' : decide ((k : Int) < (m : Nat)) = false := h; rw [decide_eq_false_iff_not] at h'; omega
  subst e
  clear h
  refine zJ ?_
  iterate 2 refine zK ?_
  refine zL ?_
  refine zE ?_
  refine zA ?_
  refine zB ?_
  refine wl_loadBx 0 Tryz.hT rfl rfl rfl rfl rfl rfl rfl rfl ?_
  refine wl_upd 33 (planV q (rotN k rs).length cq) rfl (congrArg (fun v => Value.agg #[v]) eV) ?_
  refine wl_call1 rfl rfl rfl rfl rfl rfl (by kernel_rfl) (fun W hp => leastR_gives W q cq (rotN k rs) (by rw [rotN_len]; omega) (by rw [rotN_tot]; exact hT) (by rw [rotN_tot]; exact h0) (hq hp 2 3 rfl rfl) (rotN_ne hne k)) ?_
  iterate 5 refine wl_pure Tryz.hT rfl rfl rfl ?_
  refine wl_nil ?_
  refine zE ?_
  refine zA ?_
  refine zB ?_
  refine wl_loadBx 0 Tryz.hT rfl rfl rfl rfl rfl rfl rfl rfl ?_
  iterate 6 refine wl_pure Tryz.hT rfl rfl rfl ?_
  refine wl_upd 37 (planV q (rotN k rs).length cq) rfl (congrArg (fun v => Value.agg #[v]) eV) ?_
  refine wl_call (X := Vec × Made) rfl rfl rfl rfl rfl rfl (by kernel_rfl) (fun W hp => movedR_gives W q cq (rotN k rs) 1 0 0 1 (w64 ((lstL rs.flatten).1 - (lstL (rotN k rs).flatten).1)) (w64 ((lstL rs.flatten).2 - (lstL (rotN k rs).flatten).2)) (by rw [rotN_len]; exact hn) (by rw [rotN_tot]; exact hT) (hq hp 2 3 rfl rfl) (rotN_ne hne k)) ?_
  rintro ⟨V, mk⟩ ⟨hmk, hV⟩
  have hmk : MadeOK mk (rotV rs k) := by rw [← home_aff hall h0]; exact hmk
  have hl := rotV_len rs k
  have hV' : V.OK 1 (rotV rs k).length (rowCells mk) := by rw [hl]; rw [rotN_len] at hV; exact hV
  obtain ⟨q2, cq2, eV2, hrings⟩ := made_rings hmk hV'
  refine wl_upd 44 (planV q2 (rotV rs k).length cq2) rfl (congrArg (fun v => Value.agg #[v]) (by rw [← eV2, hl, rotN_len])) ?_
  refine wl_call1 rfl rfl rfl rfl rfl rfl (by kernel_rfl) (fun W hp => boundedR_gives W q2 cq2 (rotV rs k) (by rw [hl]; omega) (by unfold rotV; rw [tot_mvR, rotN_tot]; exact hT) (hrings hp 4 5 rfl rfl)) ?_
  cases hr : (rotV rs k).flatten.any (fun s => !rgd s) with
  | true =>
    refine wl_upd 45 (.tuple #[noPlan, .int .i64 2]) rfl (by rw [if_pos rfl]) ?_
    iterate 2 refine wl_pure Tryz.hT rfl rfl rfl ?_
    refine wl_storeBx 1 Tryz.hT rfl rfl rfl rfl rfl rfl rfl rfl rfl rfl rfl ?_
    refine wl_pure Tryz.hT rfl rfl rfl ?_
    refine wl_nil ?_
    refine zE ?_
    refine zO ?_
    exact ne_ret2 Tryz.hT rfl (.cell 1 rfl rfl rfl rfl rfl) (.tmp rfl) none rfl hr fun W _ => NewBx.nil _ _
  | false =>
    refine wl_upd 45 (.tuple #[planV q2 (rotV rs k).length cq2, .int .i64 0]) rfl (by rw [if_neg (by decide)]) ?_
    iterate 2 refine wl_pure Tryz.hT rfl rfl rfl ?_
    refine wl_storeBx 1 Tryz.hT rfl rfl rfl rfl rfl rfl rfl rfl rfl rfl rfl ?_
    refine wl_pure Tryz.hT rfl rfl rfl ?_
    refine wl_nil ?_
    refine zE ?_
    refine zO ?_
    exact ne_ret2 Tryz.hT rfl (.cell 1 rfl rfl rfl rfl rfl) (.tmp rfl) (some (V, mk)) (by show Value.tuple #[.agg #[slv q2 _ cq2], _] = .tuple #[.agg #[V.val rs.length], _]; rw [← eV2, hl]) ⟨hr, hmk, hl ▸ hV'⟩ fun W hp => (hp.pick [4, 5] (by decide) rfl).own
theorem rotateR_no (W : World) (p : Option Addr) (cap : Nat) (rs : List (List Sd)) (n : Int) (hn : rs.length < 1099511627776) (hT : tot rs < 1099511627776) (hR : RingsP W p rs) (hc : chk rs ≠ 0) :
    CallsR Tryz.prog 41 #[planV p rs.length cap, .int .i64 n] W (fun _ : Unit => .tuple #[noPlan, .int .i64 1]) (fun _ => True) (fun _ => []) := by
  refine calls_enter (args := [planV p rs.length cap, .int .i64 n]) Tryz.func41 rfl rfl rfl ?_
  refine zA ?_
  refine zB ?_
  (refine wl_box rfl rfl rfl rfl ?_; intro)
  (refine wl_allocZ Tryz.hZ rfl rfl rfl rfl ?_; intro)
  refine wl_pure Tryz.hT rfl rfl rfl ?_
  refine wl_nil ?_
  rename_i b2 b4
  refine zE ?_
  iterate 2 refine zA ?_
  refine zB ?_
  refine wl_loadBx 0 Tryz.hT rfl rfl rfl rfl rfl rfl rfl rfl ?_
  refine wl_call1 rfl rfl rfl rfl rfl rfl (by kernel_rfl) (fun W hp => refChk_gives W p cap rs (by omega) hT (hR.hp hp)) ?_
  refine wl_pure Tryz.hT rfl rfl rfl ?_
  refine wl_nil ?_
  refine zE ?_
  refine wc_cond rfl (fun h => ?_) (fun h => ?_)
  · refine zA ?_
    refine zB ?_
    refine wl_buildZ Tryz.hZ Tryz.hT rfl rfl rfl rfl rfl rfl rfl rfl ?_
    refine wl_storeBx 1 Tryz.hT rfl rfl rfl rfl rfl rfl rfl rfl rfl rfl rfl ?_
    refine wl_pure Tryz.hT rfl rfl rfl ?_
    refine wl_nil ?_
    refine zE ?_
    refine zO ?_
    refine zP ?_
    exact ne_ret2 Tryz.hT rfl (.cell 1 rfl rfl rfl rfl rfl) (.tmp rfl) () rfl trivial fun W _ => NewBx.nil _ _
  · exact absurd (show chk rs = 0 by have h' : (chk rs != 0) = false := h; simpa using h') hc
theorem rotateR_gives (W : World) (p : Option Addr) (cap : Nat) (rs : List (List Sd)) (n : Int) (hn : rs.length < 1099511627776) (hT : tot rs < 1099511627776) (hR : RingsP W p rs) : OutR 41 #[planV p rs.length cap, .int .i64 n] W (rotO rs n) := by
  by_cases hc : chk rs = 0
  · exact outR_way (rotV_len _ _) (by unfold rotO; rw [if_neg (fun h => h hc)]) (rotateR_ok W p cap rs n hn hR hc)
  · exact outR_err (by unfold rotO; rw [if_pos hc]) (rotateR_no W p cap rs n hn hT hR hc)
end Go.Proofs.YtnpfkmbcejgnjaaGreatDoor
namespace Go.Proofs.YtnpfkmbcejgnjaaGreatDoor
open Go Go.RowKit Go.Am
set_option maxRecDepth 10000
-- BOXES 4
-- BOXIDX t3=0 t6=1
/-- What Shift gives. -/
def shO (rs : List (List Sd)) (dx dy : Int) : Out := if shE rs dx dy = 0 then (mvR (shF dx dy) rs, 0) else ([], shE rs dx dy)
theorem outR_ok {f : Nat} {args : Array Value} {W : World} {n : Nat} {rs : List (List Sd)} {o : Out} (hl : rs.length = n) (ho : o = (rs, 0)) (h : CallsR Tryz.prog f args W (fun x : Vec × Made => .tuple #[.agg #[x.1.val n], .int .i64 0]) (fun x => MadeOK x.2 rs ∧ x.1.OK 1 n (rowCells x.2)) (fun x => [x.1.bx 27 (rowCells x.2), mkB x.2])) : OutR f args W o := by
  subst hl; subst ho; exact h
theorem shiftP_gives (W : World) (p : Option Addr) (cap : Nat) (rs : List (List Sd)) (dx dy : Int) (hn : rs.length < 1099511627776) (hT : tot rs < 1099511627776) (hR : RingsP W p rs) : OutR 26 #[planV p rs.length cap, .int .i64 dx, .int .i64 dy] W (shO rs dx dy) := by
  by_cases he : shE rs dx dy = 0
  · exact outR_ok (mvR_len _ _) (by unfold shO; rw [if_pos he]) (shift_ok W p cap rs dx dy hn hR he)
  · exact outR_err (by unfold shO; rw [if_neg he]) (shift_no W p cap rs dx dy hn hT hR he)
theorem far_out (dx dy : Int) : shFar dx dy = (outB dx (-65536) 65536 || outB dy (-65536) 65536) := by
  unfold shFar outB
  rw [Bool.eq_iff_iff]
  simp only [Bool.or_eq_true, decide_eq_true_eq]
  by_cases h1 : dy > dx <;> by_cases h2 : dy < dx <;> simp only [h1, h2, if_true, if_false] <;> omega
theorem shift_aff {rs : List (List Sd)} (h : allR rs) {dx dy : Int} (hf : shFar dx dy = false) : mvR (affF 1 0 0 1 dx dy) rs = mvR (shF dx dy) rs := by
  have hb : -65536 ≤ dx ∧ dx ≤ 65536 ∧ -65536 ≤ dy ∧ dy ≤ 65536 := by
    rw [far_out] at hf
    unfold outB at hf
    simp only [Bool.or_eq_false_iff, decide_eq_false_iff_not] at hf
    omega
  refine mvR_congr fun l hl s hs => ?_
  obtain ⟨h1, h2, h3, h4⟩ := h l hl s hs
  unfold affF shF
  rw [Int.zero_mul, Int.zero_mul, Int.one_mul, Int.one_mul, w64_id (x := 0) (by omega) (by omega), w64_id (x := s.x) (by omega) (by omega), w64_id (x := s.y) (by omega) (by omega), w64_id (x := s.x + 0) (by omega) (by omega), w64_id (x := 0 + s.y) (by omega) (by omega)]
  congr 1 <;> congr 1 <;> omega
theorem out_none {o : Out} {c : Int} (e : o = ([], c)) : (Value.tuple #[noPlan, .int .i64 c] = Value.tuple #[.agg #[Vec.empty.val o.1.length], .int .i64 o.2]) ∧ (MadeOK [] o.1 ∧ Vec.empty.OK 1 o.1.length (rowCells [])) := by
  subst e
  exact ⟨rfl, ⟨rfl, fun p hp => by cases hp⟩, Vec.OK.empty 1⟩
set_option maxHeartbeats 8000000 in
theorem shiftR_gives (W : World) (p : Option Addr) (cap : Nat) (rs : List (List Sd)) (dx dy : Int) (hn : rs.length < 1099511627776) (hT : tot rs < 1099511627776) (hR : RingsP W p rs) : OutR 42 #[planV p rs.length cap, .int .i64 dx, .int .i64 dy] W (shO rs dx dy) := by
  have bad : ∀ {c : Int}, shE rs dx dy = c → c ≠ 0 → shO rs dx dy = ([], c) := fun {c} h h0 => by unfold shO; rw [h, if_neg h0]
  refine calls_enter (args := [planV p rs.length cap, .int .i64 dx, .int .i64 dy]) Tryz.func42 rfl rfl rfl ?_
  refine zA ?_
  refine zB ?_
  (refine wl_box rfl rfl rfl rfl ?_; intro)
  (refine wl_allocZ Tryz.hZ rfl rfl rfl rfl ?_; intro)
  refine wl_pure Tryz.hT rfl rfl rfl ?_
  refine wl_nil ?_
  rename_i b3 b6
  refine zE ?_
  iterate 2 refine zA ?_
  refine zB ?_
  refine wl_loadBx 0 Tryz.hT rfl rfl rfl rfl rfl rfl rfl rfl ?_
  refine wl_call1 rfl rfl rfl rfl rfl rfl (by kernel_rfl) (fun W hp => refChk_gives W p cap rs (by omega) hT (hR.hp hp)) ?_
  refine wl_pure Tryz.hT rfl rfl rfl ?_
  refine wl_nil ?_
  refine zE ?_
  refine wc_cond rfl (fun h => ?_) (fun h => ?_)
  · have hc : chk rs ≠ 0 := by have h' : (chk rs != 0) = true := h; simpa using h'
    have e := out_none (bad (c := 1) (by unfold shE; rw [if_pos hc]) (by decide))
    refine zA ?_
    refine zB ?_
    refine wl_buildZ Tryz.hZ Tryz.hT rfl rfl rfl rfl rfl rfl rfl rfl ?_
    refine wl_storeBx 1 Tryz.hT rfl rfl rfl rfl rfl rfl rfl rfl rfl rfl rfl ?_
    refine wl_pure Tryz.hT rfl rfl rfl ?_
    refine wl_nil ?_
    refine zE ?_
    refine zO ?_
    refine zP ?_
    exact ne_ret2 Tryz.hT rfl (.cell 1 rfl rfl rfl rfl rfl) (.tmp rfl) (Vec.empty, []) e.1 e.2 fun W1 _ => own_no _ _
  have hc : chk rs = 0 := by have h' : (chk rs != 0) = false := h; simpa using h'
  clear h
  obtain ⟨hne, hT24, h0⟩ := chk_ne hc
  have hfar : shFar dx dy = true → shE rs dx dy = 2 := fun h => by unfold shE; rw [if_neg (fun h => h hc), if_pos h]
  refine zI ?_
  refine zE ?_
  iterate 2 refine zA ?_
  refine zB ?_
  refine wl_pure Tryz.hT rfl rfl rfl ?_
  refine wl_call1 rfl rfl rfl rfl rfl rfl (by kernel_rfl) (fun W _ => (outside_gives ..)) ?_
  refine wl_pure Tryz.hT rfl rfl rfl ?_
  refine wl_part 14 rfl (fun h14 => ?_) (fun h14 => ?_)
  · refine wl_skip rfl rfl ?_
    refine wl_skip rfl rfl ?_
    refine wl_pure Tryz.hT rfl rfl rfl ?_
    refine wl_nil ?_
    have e := out_none (bad (c := 2) (hfar (by rw [far_out, h14]; rfl)) (by decide))
    refine zE ?_
    refine zR rfl ?_
    refine zA ?_
    refine zB ?_
    refine wl_buildZ Tryz.hZ Tryz.hT rfl rfl rfl rfl rfl rfl rfl rfl ?_
    refine wl_storeBx 1 Tryz.hT rfl rfl rfl rfl rfl rfl rfl rfl rfl rfl rfl ?_
    refine wl_pure Tryz.hT rfl rfl rfl ?_
    refine wl_nil ?_
    refine zE ?_
    refine zO ?_
    refine zP ?_
    exact ne_ret2 Tryz.hT rfl (.cell 1 rfl rfl rfl rfl rfl) (.tmp rfl) (Vec.empty, []) e.1 e.2 fun W1 _ => own_no _ _
  · refine wl_pure Tryz.hT rfl rfl rfl ?_
    refine wl_call1 rfl rfl rfl rfl rfl rfl (by kernel_rfl) (fun W _ => (outside_gives ..)) ?_
    refine wl_pure Tryz.hT rfl rfl rfl ?_
    refine wl_nil ?_
    refine zE ?_
    refine wc_cond rfl (fun hx => ?_) (fun hx => ?_)
    · have e := out_none (bad (c := 2) (hfar (by rw [far_out, hx, Bool.or_true])) (by decide))
      refine zA ?_
      refine zB ?_
      refine wl_buildZ Tryz.hZ Tryz.hT rfl rfl rfl rfl rfl rfl rfl rfl ?_
      refine wl_storeBx 1 Tryz.hT rfl rfl rfl rfl rfl rfl rfl rfl rfl rfl rfl ?_
      refine wl_pure Tryz.hT rfl rfl rfl ?_
      refine wl_nil ?_
      refine zE ?_
      refine zO ?_
      refine zP ?_
      exact ne_ret2 Tryz.hT rfl (.cell 1 rfl rfl rfl rfl rfl) (.tmp rfl) (Vec.empty, []) e.1 e.2 fun W1 _ => own_no _ _
    have hf : shFar dx dy = false := by rw [far_out, h14, hx]; rfl
    refine zI ?_
    refine zE ?_
    refine zA ?_
    refine zB ?_
    refine wl_loadBx 0 Tryz.hT rfl rfl rfl rfl rfl rfl rfl rfl ?_
    iterate 2 refine wl_pure Tryz.hT rfl rfl rfl ?_
    refine wl_call (X := Vec × Made) rfl rfl rfl rfl rfl rfl (by kernel_rfl) (fun W hp => movedR_gives W p cap rs 1 0 0 1 dx dy hn hT (hR.hp hp) hne) ?_
    rintro ⟨V, mk⟩ ⟨hmk, hV⟩
    have hmk : MadeOK mk (mvR (shF dx dy) rs) := by rw [← shift_aff (chk_allR hc) hf]; exact hmk
    have hl : (mvR (shF dx dy) rs).length = rs.length := mvR_len _ _
    have hV' : V.OK 1 (mvR (shF dx dy) rs).length (rowCells mk) := by rw [hl]; exact hV
    obtain ⟨q2, cq2, eV2, hrings⟩ := made_rings hmk hV'
    refine wl_upd 22 (planV q2 (mvR (shF dx dy) rs).length cq2) rfl (congrArg (fun v => Value.agg #[v]) (by rw [← eV2, hl])) ?_
    refine wl_call1 rfl rfl rfl rfl rfl rfl (by kernel_rfl) (fun W hp => boundedR_gives W q2 cq2 (mvR (shF dx dy) rs) (by rw [hl]; omega) (by rw [tot_mvR]; exact hT) (hrings hp 2 3 rfl rfl)) ?_
    cases hr : (mvR (shF dx dy) rs).flatten.any (fun s => !rgd s) with
    | true =>
      have e := out_none (bad (c := 2) (by unfold shE; rw [if_neg (fun h => h hc), if_neg (by rw [hf]; decide), if_pos hr]) (by decide))
      refine wl_upd 23 (.tuple #[noPlan, .int .i64 2]) rfl (by rw [if_pos rfl]) ?_
      iterate 2 refine wl_pure Tryz.hT rfl rfl rfl ?_
      refine wl_storeBx 1 Tryz.hT rfl rfl rfl rfl rfl rfl rfl rfl rfl rfl rfl ?_
      refine wl_pure Tryz.hT rfl rfl rfl ?_
      refine wl_nil ?_
      refine zE ?_
      refine zO ?_
      exact ne_ret2 Tryz.hT rfl (.cell 1 rfl rfl rfl rfl rfl) (.tmp rfl) (Vec.empty, []) e.1 e.2 fun W1 _ => own_no _ _
    | false =>
      have e : shO rs dx dy = (mvR (shF dx dy) rs, 0) := by
        have h2 : shE rs dx dy = 0 := by unfold shE; rw [if_neg (fun h => h hc), if_neg (by rw [hf]; decide), if_neg (by rw [hr]; decide)]
        unfold shO
        rw [if_pos h2]
      refine wl_upd 23 (.tuple #[planV q2 (mvR (shF dx dy) rs).length cq2, .int .i64 0]) rfl (by rw [if_neg (by decide)]) ?_
      iterate 2 refine wl_pure Tryz.hT rfl rfl rfl ?_
      refine wl_storeBx 1 Tryz.hT rfl rfl rfl rfl rfl rfl rfl rfl rfl rfl rfl ?_
      refine wl_pure Tryz.hT rfl rfl rfl ?_
      refine wl_nil ?_
      refine zE ?_
      refine zO ?_
      exact ne_ret2 Tryz.hT rfl (.cell 1 rfl rfl rfl rfl rfl) (.tmp rfl) (V, mk) (by rw [e]; show Value.tuple #[.agg #[slv q2 _ cq2], _] = .tuple #[.agg #[V.val (mvR (shF dx dy) rs).length], _]; rw [← eV2]) (by rw [e]; exact ⟨hmk, hV'⟩) fun W hp => (hp.pick [2, 3] (by decide) rfl).own
end Go.Proofs.YtnpfkmbcejgnjaaGreatDoor
namespace Go.Proofs
open Go.Shelf
def Tryz.lays169_ren : Go.Shelf.Ren := ⟨fun | 169 => 81 | n => n, fun | 70 => 91 | 9 => 9 | 0 => 0 | 72 => 94 | 37 => 92 | 127 => 150 | 3 => 3 | 5 => 5 | n => n, fun | n => n⟩
theorem Tryz.lays169 : Go.Proofs.Lays.n169 Tryz.prog Tryz.lays169_ren := {
  mixed := by kernel_rfl
  f169 := Tryz.func81.trans (congrArg some (by kernel_rfl))
  t0 := Tryz.underlying0
  a0 := Tryz.isAgg0
  z0 := Tryz.sizeOf0
  v0 := Tryz.zeroValue0
  t3 := Tryz.underlying3
  a3 := Tryz.isAgg3
  z3 := Tryz.sizeOf3
  v3 := Tryz.zeroValue3
  t9 := Tryz.underlying9
  a9 := Tryz.isAgg9
  z9 := Tryz.sizeOf9
  v9 := Tryz.zeroValue9
  t37 := Tryz.underlying92
  a37 := Tryz.isAgg92
  z37 := Tryz.sizeOf92
  v37 := Tryz.zeroValue92
  t70 := Tryz.underlying91
  a70 := Tryz.isAgg91
  z70 := Tryz.sizeOf91
  v70 := Tryz.zeroValue91
  t72 := Tryz.underlying94
  a72 := Tryz.isAgg94
  z72 := Tryz.sizeOf94
  v72 := Tryz.zeroValue94
  t127 := Tryz.underlying150
  a127 := Tryz.isAgg150
  z127 := Tryz.sizeOf150
  v127 := Tryz.zeroValue150 }
theorem Tryz.Builder_Extra_169 : Builder.Extra Tryz.prog Tryz.lays169_ren := {
  sizeBuilder := by kernel_rfl
  liesBuilder := by kernel_rfl
  t5 := Tryz.underlying5
  a5 := Tryz.isAgg5
  z5 := Tryz.sizeOf5
  v5 := Tryz.zeroValue5
  infoByte := by kernel_rfl
  cellsByte := by kernel_rfl
  sizeByte := by kernel_rfl
  neB5 := by decide }
open Go.RowKit in
/-- (*strings.Builder).String: "String returns the accumulated string.": WHATEVER THE BUILDER HOLDS. (LAID: no walk: one application.) -/
theorem Tryz.Builder_String_any (B b : Nat) (l : List UInt8) (w : World) (h : Lib.IsBuilder 94 5 B b (Lib.byteCells l) w) (hBw : B ≤ w.heap.size) :
    Calls Tryz.prog 81 #[.pointer (some ⟨b, 0, none⟩)] w fun e w' => e = .returned (.string ⟨l.toArray⟩) ∧ Below B w w' := Any.Builder_String_any Tryz.lays169 Tryz.Builder_Extra_169 B b l w h hBw
def Tryz.lays156_ren : Go.Shelf.Ren := ⟨fun | 156 => 79 | 165 => 124 | 166 => 77 | 169 => 81 | 240 => 122 | 241 => 160 | 276 => 158 | 277 => 200 | n => n, fun | 31 => 100 | 9 => 9 | 3 => 3 | 4 => 4 | 0 => 0 | 20 => 20 | 72 => 94 | 76 => 97 | 70 => 91 | 37 => 92 | 75 => 96 | 127 => 150 | 164 => 181 | 5 => 5 | 80 => 103 | n => n, fun | n => n⟩
theorem Tryz.lays156 : Go.Proofs.Lays.n156 Tryz.prog Tryz.lays156_ren := {
  mixed := by kernel_rfl
  f156 := Tryz.func79.trans (congrArg some (by kernel_rfl))
  f165 := Tryz.func124.trans (congrArg some (by kernel_rfl))
  f166 := Tryz.func77.trans (congrArg some (by kernel_rfl))
  f169 := Tryz.func81.trans (congrArg some (by kernel_rfl))
  f240 := Tryz.func122.trans (congrArg some (by kernel_rfl))
  f241 := Tryz.func160.trans (congrArg some (by kernel_rfl))
  f276 := Tryz.func158.trans (congrArg some (by kernel_rfl))
  f277 := Tryz.func200.trans (congrArg some (by kernel_rfl))
  t0 := Tryz.underlying0
  a0 := Tryz.isAgg0
  z0 := Tryz.sizeOf0
  v0 := Tryz.zeroValue0
  t3 := Tryz.underlying3
  a3 := Tryz.isAgg3
  z3 := Tryz.sizeOf3
  v3 := Tryz.zeroValue3
  t4 := Tryz.underlying4
  a4 := Tryz.isAgg4
  z4 := Tryz.sizeOf4
  v4 := Tryz.zeroValue4
  t9 := Tryz.underlying9
  a9 := Tryz.isAgg9
  z9 := Tryz.sizeOf9
  v9 := Tryz.zeroValue9
  t20 := Tryz.underlying20
  a20 := Tryz.isAgg20
  z20 := Tryz.sizeOf20
  v20 := Tryz.zeroValue20
  t31 := Tryz.underlying100
  a31 := Tryz.isAgg100
  z31 := Tryz.sizeOf100
  v31 := Tryz.zeroValue100
  t37 := Tryz.underlying92
  a37 := Tryz.isAgg92
  z37 := Tryz.sizeOf92
  v37 := Tryz.zeroValue92
  t70 := Tryz.underlying91
  a70 := Tryz.isAgg91
  z70 := Tryz.sizeOf91
  v70 := Tryz.zeroValue91
  t72 := Tryz.underlying94
  a72 := Tryz.isAgg94
  z72 := Tryz.sizeOf94
  v72 := Tryz.zeroValue94
  t75 := Tryz.underlying96
  a75 := Tryz.isAgg96
  z75 := Tryz.sizeOf96
  v75 := Tryz.zeroValue96
  t76 := Tryz.underlying97
  a76 := Tryz.isAgg97
  z76 := Tryz.sizeOf97
  v76 := Tryz.zeroValue97
  t127 := Tryz.underlying150
  a127 := Tryz.isAgg150
  z127 := Tryz.sizeOf150
  v127 := Tryz.zeroValue150
  t164 := Tryz.underlying181
  a164 := Tryz.isAgg181
  z164 := Tryz.sizeOf181
  v164 := Tryz.zeroValue181 }
theorem Tryz.Builder_Extra_156 : Builder.Extra Tryz.prog Tryz.lays156_ren := {
  sizeBuilder := by kernel_rfl
  liesBuilder := by kernel_rfl
  t5 := Tryz.underlying5
  a5 := Tryz.isAgg5
  z5 := Tryz.sizeOf5
  v5 := Tryz.zeroValue5
  infoByte := by kernel_rfl
  cellsByte := by kernel_rfl
  sizeByte := by kernel_rfl
  neB5 := by decide }
open Go.RowKit in
/-- strings.Join: "Join concatenates the elements of its first argument to create a single string. The separator string sep is placed between elements in the resulting string.": HOWEVER MANY ELEMENTS. Below the heap's end the world is as it was. (LAID: no walk: one application.) -/
theorem Tryz.strings_Join (bk o c : Nat) (xs : List ByteArray) (sep : ByteArray) (w : World) (hcells : ∀ (j : Nat) x, xs[j]? = some x → w.cell? ⟨bk, o + j, none⟩ = some (.string x)) (hbk : bk < w.heap.size) (hN : xs.length ≤ 140737488355328) (hcap : xs.length ≤ c) (hlen : (Lib.join (xs.map (·.data.toList)) sep.data.toList).length ≤ 140737488355328) :
    Calls Tryz.prog 79 #[.slice (some ⟨bk, o, none⟩) xs.length c, .string sep] w fun e w' => e = .returned (.string ⟨(Lib.join (xs.map (·.data.toList)) sep.data.toList).toArray⟩) ∧ Below w.heap.size w w' := Any.strings_Join Tryz.lays156 Tryz.Builder_Extra_156 bk o c xs sep w hcells hbk hN hcap hlen
open Go.RowKit in
/-- strconv.Atoi, AT EVERY STRING THAT IS NO DECIMAL NUMERAL (no numeral): 0, AND AN ERROR THAT IS NOT nil: a *NumError in a new block N: {Func: "Atoi", Num: s's bytes, Err: what the variable ErrSyntax holds}. Of what was there nothing has turned. (LAID: no walk: one application.) -/
theorem Tryz.strconv_Atoi_syntax (s : ByteArray) (hlim : s.size ≤ 281474976710656) (h : Lib.atoiAll s.data.toList = Lib.NumEnd.syntax) (ev : Value) (w : World) (hv : w.cell? ⟨2, 0, none⟩ = some ev) (hev : ev = .nilIface ∨ ∃ te pe, ev = .iface te pe) :
    Calls Tryz.prog 128 #[.string s] w fun e w' => ∃ N, e = .returned (.tuple #[.int .i64 (0), .iface 228 (.pointer (some ⟨N, 0, none⟩))]) ∧ w.heap.size ≤ N ∧ w'.heap[N]? = some (.cells #[.string ⟨#[65, 116, 111, 105]⟩, .string s, ev] 259 (0, 0)) ∧ Below w.heap.size w w' := Any.strconv_Atoi_syntax Tryz.laysC172 s hlim h ev w hv hev
open Go.RowKit in
/-- strconv.Atoi, AT EVERY NUMERAL THAT NO int HOLDS ('.range'): THE GREATEST OR THE LEAST int, BY THE SIGN ('Lib.atoiSat'), AND AN ERROR THAT IS NOT nil: a *NumError in a new block N: {Func: "Atoi", Num: s's bytes, Err: what the variable ErrRange holds}. Of what was there nothing has turned. (LAID: no walk: one application.) -/
theorem Tryz.strconv_Atoi_range (s : ByteArray) (hlim : s.size ≤ 281474976710656) (h : Lib.atoiAll s.data.toList = .range) (ev : Value) (w : World) (hv : w.cell? ⟨3, 0, none⟩ = some ev) (hev : ev = .nilIface ∨ ∃ te pe, ev = .iface te pe) :
    Calls Tryz.prog 128 #[.string s] w fun e w' => ∃ N, e = .returned (.tuple #[.int .i64 (Lib.atoiSat s.data.toList), .iface 228 (.pointer (some ⟨N, 0, none⟩))]) ∧ w.heap.size ≤ N ∧ w'.heap[N]? = some (.cells #[.string ⟨#[65, 116, 111, 105]⟩, .string s, ev] 259 (0, 0)) ∧ Below w.heap.size w w' := Any.strconv_Atoi_range Tryz.laysC172 s hlim h ev w hv hev
def Tryz.lays145_ren : Go.Shelf.Ren := ⟨fun | 145 => 82 | 220 => 125 | 219 => 161 | 217 => 201 | 225 => 202 | 224 => 203 | 267 => 204 | 266 => 244 | 314 => 245 | n => n, fun | 9 => 9 | 4 => 4 | 59 => 104 | 3 => 3 | 5 => 5 | 46 => 110 | 146 => 252 | 51 => 165 | n => n, fun | 1 => 0 | n => n⟩
theorem Tryz.lays145 : Go.Proofs.Lays.n145 Tryz.prog Tryz.lays145_ren := {
  mixed := by kernel_rfl
  f145 := Tryz.func82.trans (congrArg some (by kernel_rfl))
  f217 := Tryz.func201.trans (congrArg some (by kernel_rfl))
  f219 := Tryz.func161.trans (congrArg some (by kernel_rfl))
  f220 := Tryz.func125.trans (congrArg some (by kernel_rfl))
  f224 := Tryz.func203.trans (congrArg some (by kernel_rfl))
  f225 := Tryz.func202.trans (congrArg some (by kernel_rfl))
  f266 := Tryz.func244.trans (congrArg some (by kernel_rfl))
  f267 := Tryz.func204.trans (congrArg some (by kernel_rfl))
  f314 := Tryz.func245.trans (congrArg some (by kernel_rfl))
  t3 := Tryz.underlying3
  a3 := Tryz.isAgg3
  z3 := Tryz.sizeOf3
  v3 := Tryz.zeroValue3
  t4 := Tryz.underlying4
  a4 := Tryz.isAgg4
  z4 := Tryz.sizeOf4
  v4 := Tryz.zeroValue4
  t5 := Tryz.underlying5
  a5 := Tryz.isAgg5
  z5 := Tryz.sizeOf5
  v5 := Tryz.zeroValue5
  t9 := Tryz.underlying9
  a9 := Tryz.isAgg9
  z9 := Tryz.sizeOf9
  v9 := Tryz.zeroValue9
  t46 := Tryz.underlying110
  a46 := Tryz.isAgg110
  z46 := Tryz.sizeOf110
  v46 := Tryz.zeroValue110
  t51 := Tryz.underlying165
  a51 := Tryz.isAgg165
  z51 := Tryz.sizeOf165
  v51 := Tryz.zeroValue165
  t59 := Tryz.underlying104
  a59 := Tryz.isAgg104
  z59 := Tryz.sizeOf104
  v59 := Tryz.zeroValue104
  t146 := Tryz.underlying252
  a146 := Tryz.isAgg252
  z146 := Tryz.sizeOf252
  v146 := Tryz.zeroValue252
  g1 := by kernel_rfl }
open Go.RowKit Go.Lib in
/-- strings.Cut: "Cut slices s around the first instance of sep, returning the text before and after sep. The found result reports whether sep appears in s. If sep does not appear in s, cut returns s, "", false.": IT RETURNS 'Lib.cut s sep'; the world is as it was but for the count of draws. (LAID: no walk: one application.) -/
theorem Tryz.strings_Cut (s sep : ByteArray) (m : Int) (w : World) (hs : s.size < 4294967281) (hm : w.cell? ⟨0, 0, none⟩ = some (.int .i64 m)) :
    Calls Tryz.prog 82 #[.string s, .string sep] w fun e w' => e = .returned (.tuple #[.string ⟨(Lib.cut s.data.toList sep.data.toList).1.toArray⟩, .string ⟨(Lib.cut s.data.toList sep.data.toList).2.1.toArray⟩, .bool (Lib.cut s.data.toList sep.data.toList).2.2]) ∧ ∃ n, w' = w.drewN n := Any.strings_Cut Tryz.lays145 s sep m w hs hm
def Tryz.lays146_ren : Go.Shelf.Ren := ⟨fun | 146 => 126 | 221 => 162 | 268 => 205 | 138 => 206 | 143 => 207 | 195 => 246 | 197 => 247 | 218 => 248 | 219 => 161 | 260 => 260 | 217 => 201 | 225 => 202 | 224 => 203 | 267 => 204 | 266 => 244 | 314 => 245 | n => n, fun | 9 => 9 | 31 => 100 | 3 => 3 | 4 => 4 | 0 => 0 | 105 => 254 | 21 => 21 | 5 => 5 | 46 => 110 | 119 => 280 | 139 => 283 | 138 => 282 | 146 => 252 | 51 => 165 | n => n, fun | 1 => 0 | 3 => 6 | 4 => 7 | n => n⟩
theorem Tryz.lays146 : Go.Proofs.Lays.n146 Tryz.prog Tryz.lays146_ren := {
  mixed := by kernel_rfl
  f138 := Tryz.func206.trans (congrArg some (by kernel_rfl))
  f143 := Tryz.func207.trans (congrArg some (by kernel_rfl))
  f146 := Tryz.func126.trans (congrArg some (by kernel_rfl))
  f195 := Tryz.func246.trans (congrArg some (by kernel_rfl))
  f197 := Tryz.func247.trans (congrArg some (by kernel_rfl))
  f217 := Tryz.func201.trans (congrArg some (by kernel_rfl))
  f218 := Tryz.func248.trans (congrArg some (by kernel_rfl))
  f219 := Tryz.func161.trans (congrArg some (by kernel_rfl))
  f221 := Tryz.func162.trans (congrArg some (by kernel_rfl))
  f224 := Tryz.func203.trans (congrArg some (by kernel_rfl))
  f225 := Tryz.func202.trans (congrArg some (by kernel_rfl))
  f260 := Tryz.func260.trans (congrArg some (by kernel_rfl))
  f266 := Tryz.func244.trans (congrArg some (by kernel_rfl))
  f267 := Tryz.func204.trans (congrArg some (by kernel_rfl))
  f268 := Tryz.func205.trans (congrArg some (by kernel_rfl))
  f314 := Tryz.func245.trans (congrArg some (by kernel_rfl))
  t0 := Tryz.underlying0
  a0 := Tryz.isAgg0
  z0 := Tryz.sizeOf0
  v0 := Tryz.zeroValue0
  t3 := Tryz.underlying3
  a3 := Tryz.isAgg3
  z3 := Tryz.sizeOf3
  v3 := Tryz.zeroValue3
  t4 := Tryz.underlying4
  a4 := Tryz.isAgg4
  z4 := Tryz.sizeOf4
  v4 := Tryz.zeroValue4
  t5 := Tryz.underlying5
  a5 := Tryz.isAgg5
  z5 := Tryz.sizeOf5
  v5 := Tryz.zeroValue5
  t9 := Tryz.underlying9
  a9 := Tryz.isAgg9
  z9 := Tryz.sizeOf9
  v9 := Tryz.zeroValue9
  t21 := Tryz.underlying21
  a21 := Tryz.isAgg21
  z21 := Tryz.sizeOf21
  v21 := Tryz.zeroValue21
  t31 := Tryz.underlying100
  a31 := Tryz.isAgg100
  z31 := Tryz.sizeOf100
  v31 := Tryz.zeroValue100
  t46 := Tryz.underlying110
  a46 := Tryz.isAgg110
  z46 := Tryz.sizeOf110
  v46 := Tryz.zeroValue110
  t51 := Tryz.underlying165
  a51 := Tryz.isAgg165
  z51 := Tryz.sizeOf165
  v51 := Tryz.zeroValue165
  t105 := Tryz.underlying254
  a105 := Tryz.isAgg254
  z105 := Tryz.sizeOf254
  v105 := Tryz.zeroValue254
  t119 := Tryz.underlying280
  a119 := Tryz.isAgg280
  z119 := Tryz.sizeOf280
  t138 := Tryz.underlying282
  a138 := Tryz.isAgg282
  z138 := Tryz.sizeOf282
  v138 := Tryz.zeroValue282
  t139 := Tryz.underlying283
  a139 := Tryz.isAgg283
  z139 := Tryz.sizeOf283
  v139 := Tryz.zeroValue283
  t146 := Tryz.underlying252
  a146 := Tryz.isAgg252
  z146 := Tryz.sizeOf252
  v146 := Tryz.zeroValue252
  g1 := by kernel_rfl
  g3 := by kernel_rfl
  g4 := by kernel_rfl }
open Go.RowKit Go.Lib in
/-- strings.Split. (LAID: no walk: one application.) -/
theorem Tryz.strings_Split (s sep : ByteArray) (m : Int) (w : World) (hs : s.size < 4294967281) (hm : w.cell? ⟨0, 0, none⟩ = some (.int .i64 m)) (h1 : 1 ≤ sep.size) :
    Calls Tryz.prog 126 #[.string s, .string sep] w fun e w' =>
      e = .returned (.slice (some ⟨w.heap.size, 0, none⟩) (Lib.countB s sep + 1) (Lib.countB s sep + 1)) ∧ w' = w.alloc (.cells ((Lib.splitB sep 0 (Lib.countB s sep) s).map Value.string).toArray 9) := Any.strings_Split Tryz.lays146 (by kernel_rfl) s sep m w hs hm h1
def Tryz.laysNm224_ren : Go.Shelf.Ren := ⟨fun | 24 => 127 | n => n, fun | 24 => 100 | 9 => 9 | 3 => 3 | 4 => 4 | 0 => 0 | n => n, fun | n => n⟩
theorem Tryz.laysNm224 : Go.Proofs.Lays2.n24 Tryz.prog Tryz.laysNm224_ren := {
  mixed := by kernel_rfl
  f24 := Tryz.func127.trans (congrArg some (by kernel_rfl))
  t0 := Tryz.underlying0
  a0 := Tryz.isAgg0
  z0 := Tryz.sizeOf0
  v0 := Tryz.zeroValue0
  t3 := Tryz.underlying3
  a3 := Tryz.isAgg3
  z3 := Tryz.sizeOf3
  v3 := Tryz.zeroValue3
  t4 := Tryz.underlying4
  a4 := Tryz.isAgg4
  z4 := Tryz.sizeOf4
  v4 := Tryz.zeroValue4
  t9 := Tryz.underlying9
  a9 := Tryz.isAgg9
  z9 := Tryz.sizeOf9
  v9 := Tryz.zeroValue9
  t24 := Tryz.underlying100
  a24 := Tryz.isAgg100
  z24 := Tryz.sizeOf100
  v24 := Tryz.zeroValue100
  i9 := by kernel_rfl }
open Go.RowKit Go.Lib Go.Sort in
/-- slices.Delete at []string: "Delete modifies s in place by removing the elements s[i:j], and returns the modified slice. Delete panics if j > len(s) or s[i:j] is not a valid slice of s. Delete is O(len(s)-i), so if many items must be deleted, it is better to make a single call deleting them all together than to delete one at a time. Delete zeroes the elements s[len(s)-(j-i):len(s)]. If the result is empty, it has the same nilness as s.": FOR i ≤ j ≤ len(s) IT RETURNS THE SLICE CUT TO len(s) - (j - i) ELEMENTS; ITS CELLS HOLD what stood ahead of i, what stood from j on, then j - i zero values; all else is as it was, but for the count of draws. IN THE WORDS OF slices.Sort's CONTRACT ('Holds', 'putRow'). It asks 'zs.length ≤ cap ≤ 2^63 - 1' (every slice's). (Outside i ≤ j ≤ len(s) it panics: no contract here.) (LAID: no walk: one application.) -/
theorem Tryz.slices_Delete_string (blk off cap i j : Nat) (zs : List (List UInt8)) (w : World) (hH : Holds encStr w blk off zs.toArray) (hcap : zs.length ≤ cap) (hm : cap ≤ 9223372036854775807) (hij : i ≤ j) (hj : j ≤ zs.length) :
    Calls Tryz.prog 127 #[.slice (some ⟨blk, off, none⟩) zs.length cap, .int .i64 i, .int .i64 j] w fun e w' => e = .returned (.slice (some ⟨blk, off, none⟩) (zs.length - (j - i)) cap) ∧ ∃ q, w' = putRow encStr (Sort.ahead w q) blk off (zs.take i ++ zs.drop j ++ List.replicate (j - i) []).toArray := Any.slices_Delete_string Tryz.laysNm224 blk off cap i j zs w hH hcap hm hij hj
def Tryz.lays167_ren : Go.Shelf.Ren := ⟨fun | 167 => 80 | 156 => 79 | 165 => 124 | 166 => 77 | 169 => 81 | 240 => 122 | 241 => 160 | 276 => 158 | 277 => 200 | n => n, fun | 31 => 100 | 9 => 9 | 3 => 3 | 4 => 4 | 0 => 0 | 20 => 20 | 72 => 94 | 76 => 97 | 70 => 91 | 37 => 92 | 75 => 96 | 127 => 150 | 164 => 181 | 5 => 5 | 80 => 103 | n => n, fun | n => n⟩
theorem Tryz.lays167 : Go.Proofs.Lays.n167 Tryz.prog Tryz.lays167_ren := {
  mixed := by kernel_rfl
  f167 := Tryz.func80.trans (congrArg some (by kernel_rfl))
  f240 := Tryz.func122.trans (congrArg some (by kernel_rfl))
  f276 := Tryz.func158.trans (congrArg some (by kernel_rfl))
  t0 := Tryz.underlying0
  a0 := Tryz.isAgg0
  z0 := Tryz.sizeOf0
  v0 := Tryz.zeroValue0
  t4 := Tryz.underlying4
  a4 := Tryz.isAgg4
  z4 := Tryz.sizeOf4
  v4 := Tryz.zeroValue4
  t5 := Tryz.underlying5
  a5 := Tryz.isAgg5
  z5 := Tryz.sizeOf5
  v5 := Tryz.zeroValue5
  t9 := Tryz.underlying9
  a9 := Tryz.isAgg9
  z9 := Tryz.sizeOf9
  v9 := Tryz.zeroValue9
  t20 := Tryz.underlying20
  a20 := Tryz.isAgg20
  z20 := Tryz.sizeOf20
  v20 := Tryz.zeroValue20
  t37 := Tryz.underlying92
  a37 := Tryz.isAgg92
  z37 := Tryz.sizeOf92
  v37 := Tryz.zeroValue92
  t70 := Tryz.underlying91
  a70 := Tryz.isAgg91
  z70 := Tryz.sizeOf91
  v70 := Tryz.zeroValue91
  t72 := Tryz.underlying94
  a72 := Tryz.isAgg94
  z72 := Tryz.sizeOf94
  v72 := Tryz.zeroValue94
  t75 := Tryz.underlying96
  a75 := Tryz.isAgg96
  z75 := Tryz.sizeOf96
  v75 := Tryz.zeroValue96
  t164 := Tryz.underlying181
  a164 := Tryz.isAgg181
  z164 := Tryz.sizeOf181
  v164 := Tryz.zeroValue181 }
theorem Tryz.Builder_Extra_167 : Builder.Extra Tryz.prog Tryz.lays167_ren := {
  sizeBuilder := by kernel_rfl
  liesBuilder := by kernel_rfl
  t5 := Tryz.underlying5
  a5 := Tryz.isAgg5
  z5 := Tryz.sizeOf5
  v5 := Tryz.zeroValue5
  infoByte := by kernel_rfl
  cellsByte := by kernel_rfl
  sizeByte := by kernel_rfl
  neB5 := by decide }
theorem Tryz.lays166 : Go.Proofs.Lays.n166 Tryz.prog Tryz.lays156_ren := { Tryz.lays156 with }
/-- What is written is appended to the builder's bytes. -/
theorem Tryz.Builder_WriteByte (B b : Nat) (bs : List Value) (c : Int) (w : World) (h : Lib.IsBuilder 94 5 B b bs w) (hlen : bs.length + 1 ≤ 140737488355328) (hBw : B ≤ w.heap.size) :
    Calls Tryz.prog 80 #[.pointer (some ⟨b, 0, none⟩), .int .u8 c] w fun e w' => e = .returned .nilIface ∧ (Lib.BuilderAt 94 5 B b (.pointer (some ⟨b, 0, none⟩)) (bs ++ [.int .u8 c]) w' ∧ Go.RowKit.Below B w w') := Any.Builder_WriteByte Tryz.lays167 Tryz.Builder_Extra_167 B b bs c w h hlen hBw
theorem Tryz.Builder_WriteString (B b : Nat) (bs : List Value) (s : ByteArray) (w : World) (h : Lib.IsBuilder 94 5 B b bs w) (hlen : bs.length + s.size ≤ 140737488355328) (hBw : B ≤ w.heap.size) :
    Calls Tryz.prog 77 #[.pointer (some ⟨b, 0, none⟩), .string s] w fun e w' => e = .returned (.tuple #[.int .i64 s.size, .nilIface]) ∧ (Lib.BuilderAt 94 5 B b (.pointer (some ⟨b, 0, none⟩)) (bs ++ Lib.strCells s) w' ∧ Go.RowKit.Below B w w') := Any.Builder_WriteString Tryz.lays166 Tryz.Builder_Extra_156 B b bs s w h hlen hBw
end Go.Proofs
namespace Go.Proofs.YtnpfkmbcejgnjaaGreatDoor
open Go Go.RowKit Go.Am Go.Lib
set_option maxRecDepth 10000
-- BOXES 4
section
variable {r : Option Nat} {n : Nat} {P : Program} {W0 : World} {N : Nat} {D : List Deferred} {ops : List Oper} {Q : Exit → Act → World → Prop} {o : Oper} {rest : List Oper} {env : Env} {bxs : List Bx} {A : World → Prop}
/-- A call behind which nothing is known but what it tells. -/
theorem wl_callF {c : Call} {f : Operand} {g d : Nat} {capt vs : List Value} {X : Type} {val : X → Value} {Φ : X → Prop} (nb : X → List Bx)
    (hg : guardE ops N env o = some true) (hd : o.dst = some d) (ho : o.op = .call c) (hc : c.callee = .value f) (hf : evO N env f = some (.func (.func g) #[] capt.toArray)) (ha : evArgs (evO N env) c.args.toList = some vs) (hE : entersB P g = true)
    (hC : ∀ W, Hp W0 bxs W → Calls P g (vs ++ capt).toArray W fun e W' => ∃ x, e = .returned (val x) ∧ Φ x ∧ Below W0.heap.size W0 W' ∧ NewBx W0 W' (nb x))
    (h : ∀ x, Φ x → WL r n P N D ops Q rest ((d, val x) :: env) (Hp W0 (nb x))) : WL r n P N D ops Q (o :: rest) env (Hp W0 bxs) := .mk fun a W h1 h2 hp => by
  refine wl_step hg h1 (fun c e => by rw [ho] at e; cases e) ?_
  rw [call_run ho hc (evO_sound h1 _ _ hf) (arr_map (evO_sound h1) ha) hE]
  simp only [Oper.uponIn, hd]
  refine ⟨fun hx => (by cases hx), callsIn_of ((hC W hp).mono ?_)⟩
  rintro e W' ⟨x, rfl, hx, hb, hn⟩
  exact (h x hx).out a W' h1 h2 ⟨hb, hn⟩
end
abbrev bc (l : List UInt8) : List Value := l.map fun b => Value.int .u8 b.toNat
abbrev selfP (b : Nat) : Value := .pointer (some ⟨b, 0, none⟩)
/-- A builder's own block. -/
abbrev bldB (b : Nat) (p v : Value) : Bx := ⟨b, 94, [p, v], true, none⟩
theorem bld_is {W0 W : World} {b : Nat} {p : Value} {V : Vec} {l : List UInt8} (hp : p = .pointer none ∨ p = selfP b) (h : Hp W0 [bldB b p (V.val l.length), V.bx 5 (bc l)] W) (hV : V.OK 1 l.length (bc l)) : Lib.IsBuilder 94 5 W0.heap.size b (Lib.byteCells l) W := by
  have h0 := h.at_ 0 _ rfl rfl
  have hb1 : W.heap[b]? = some (.cells #[p, V.val l.length] 94 (0, 0)) := h0.1
  have hown : W.ownsRow W0.heap.size 5 1 (V.val l.length) l.length (bc l) := by
    refine ⟨by simp, ?_⟩
    obtain ⟨q, cap, junk⟩ := V
    cases q with
    | none => exact .inl ⟨rfl, hV.nil rfl⟩
    | some g =>
      obtain ⟨h3, h4, h5⟩ := hV.cap (by simp)
      have hb : W.heap[g]? = some (.cells (bc l ++ junk).toArray 5 (0, 0)) ∧ W0.heap.size ≤ g := h.at_ 1 _ rfl rfl
      refine .inr ⟨g, cap, _, rfl, hb.2, hb.1, h3, h4, by simpa using h5, ?_⟩
      simp
  have hat : Lib.BuilderAt 94 5 W0.heap.size b p (Lib.byteCells l) W := ⟨h0.2, V.val l.length, hb1, by rw [Lib.byteCells_length]; exact hown, ownBlock_ne hown hb1 (by decide)⟩
  rcases hp with rfl | rfl
  · exact .inl hat
  · exact .inr hat
theorem is_bld {W0 W : World} {b : Nat} {p : Value} {l : List UInt8} (h : Lib.BuilderAt 94 5 W0.heap.size b p (Lib.byteCells l) W) (hb : Below W0.heap.size W0 W) : ∃ V : Vec, V.OK 1 l.length (bc l) ∧ Below W0.heap.size W0 W ∧ NewBx W0 W [bldB b p (V.val l.length), V.bx 5 (bc l)] := by
  obtain ⟨hB, v, hbk, hown, hne⟩ := h
  rw [Lib.byteCells_length] at hown
  have hpb : Hp W0 [bldB b p v] W := ⟨hb, Own.one_sole rfl ⟨hbk, hB⟩⟩
  rcases hown.2 with ⟨rfl, hn⟩ | ⟨g, cap, cur, rfl, hbg, hg, hnc, hcm, hcs, htake⟩
  · have hl : l = [] := List.length_eq_zero_iff.1 hn
    subst hl
    exact ⟨Vec.empty, Vec.OK.empty 1, hb, (hpb.newGone).own⟩
  · have hcur : cur.toList = bc l ++ cur.toList.drop (l.length * 1) := by
      conv => lhs; rw [← List.take_append_drop (l.length * 1) cur.toList]
      rw [htake]; rfl
    have hgb : b ≠ g := fun e => hne (by rw [e]; rfl)
    refine ⟨⟨some g, cap, cur.toList.drop (l.length * 1)⟩, ⟨by simp, fun h => by simp at h, fun _ => ⟨hnc, hcm, ?_⟩⟩, hb, ?_⟩
    · have := congrArg List.length hcur
      rw [List.length_append] at this
      simp only [Array.length_toList] at this
      rw [← this, hcs]
    · refine NewBx.two (A := bldB b p (.slice (some ⟨g, 0, none⟩) l.length cap)) (B := ⟨g, 5, bc l ++ cur.toList.drop (l.length * 1), true, none⟩) ⟨hbk, hB⟩ ⟨?_, hbg⟩ hgb
      show W.heap[g]? = some (.cells (bc l ++ cur.toList.drop (l.length * 1)).toArray 5 (0, 0))
      rw [← hcur]
      exact hg
theorem write_gives {W0 W : World} {b : Nat} {p : Value} {V : Vec} {l : List UInt8} (s : List UInt8) (hp : p = .pointer none ∨ p = selfP b) (h : Hp W0 [bldB b p (V.val l.length), V.bx 5 (bc l)] W) (hV : V.OK 1 l.length (bc l)) (hl : l.length + s.length ≤ 1000000) :
    Calls Tryz.prog 77 #[selfP b, str s] W fun e W' => ∃ x : Vec, e = .returned ((fun _ => .tuple #[.int .i64 s.length, .nilIface]) x) ∧ x.OK 1 (l ++ s).length (bc (l ++ s)) ∧ Below W0.heap.size W0 W' ∧ NewBx W0 W' [bldB b (selfP b) (x.val (l ++ s).length), x.bx 5 (bc (l ++ s))] := by
  have hsz : (⟨s.toArray⟩ : ByteArray).size = s.length := by show s.toArray.size = _; simp
  refine (Tryz.Builder_WriteString W0.heap.size b (Lib.byteCells l) ⟨s.toArray⟩ W (bld_is hp h hV) (by rw [Lib.byteCells_length, hsz]; omega) h.below.size).mono ?_
  rintro e W' ⟨rfl, hat, hb⟩
  have e1 : Lib.byteCells l ++ strCells ⟨s.toArray⟩ = Lib.byteCells (l ++ s) := by simp [Lib.byteCells, strCells]
  rw [e1] at hat
  obtain ⟨x, h1, h2, h3⟩ := is_bld hat (h.below.trans hb)
  exact ⟨x, by rw [hsz], h1, h2, h3⟩
theorem byte_gives {W0 W : World} {b : Nat} {p : Value} {V : Vec} {l : List UInt8} (c : UInt8) (hp : p = .pointer none ∨ p = selfP b) (h : Hp W0 [bldB b p (V.val l.length), V.bx 5 (bc l)] W) (hV : V.OK 1 l.length (bc l)) (hl : l.length + 1 ≤ 1000000) :
    Calls Tryz.prog 80 #[selfP b, .int .u8 c.toNat] W fun e W' => ∃ x : Vec, e = .returned ((fun _ => .nilIface) x) ∧ x.OK 1 (l ++ [c]).length (bc (l ++ [c])) ∧ Below W0.heap.size W0 W' ∧ NewBx W0 W' [bldB b (selfP b) (x.val (l ++ [c]).length), x.bx 5 (bc (l ++ [c]))] := by
  refine (Tryz.Builder_WriteByte W0.heap.size b (Lib.byteCells l) c.toNat W (bld_is hp h hV) (by rw [Lib.byteCells_length]; omega) h.below.size).mono ?_
  rintro e W' ⟨rfl, hat, hb⟩
  have e1 : Lib.byteCells l ++ [.int .u8 (c.toNat : Int)] = Lib.byteCells (l ++ [c]) := by simp [Lib.byteCells]
  rw [e1] at hat
  obtain ⟨x, h1, h2, h3⟩ := is_bld hat (h.below.trans hb)
  exact ⟨x, rfl, h1, h2, h3⟩
theorem string_gives {W0 W : World} {b : Nat} {p : Value} {V : Vec} {l : List UInt8} (hp : p = .pointer none ∨ p = selfP b) (h : Hp W0 [bldB b p (V.val l.length), V.bx 5 (bc l)] W) (hV : V.OK 1 l.length (bc l)) :
    Calls Tryz.prog 81 #[selfP b] W fun e W' => ∃ x : Unit, e = .returned ((fun _ => str l) x) ∧ True ∧ Below W0.heap.size W0 W' ∧ NewBx W0 W' ((fun _ => []) x) := by
  refine (Tryz.Builder_String_any W0.heap.size b l W (bld_is hp h hV) h.below.size).mono ?_
  rintro e W' ⟨rfl, hb⟩
  exact ⟨(), rfl, trivial, h.below.trans hb, NewBx.nil _ _⟩
end Go.Proofs.YtnpfkmbcejgnjaaGreatDoor
namespace Go.Proofs.YtnpfkmbcejgnjaaGreatDoor
open Go Go.Lib
def splt (c : UInt8) : List UInt8 → List (List UInt8)
  | [] => [[]]
  | b :: l => if b = c then [] :: splt c l else (b :: (splt c l).headD []) :: (splt c l).tail
theorem splt_cons (c : UInt8) : ∀ l, splt c l = (splt c l).headD [] :: (splt c l).tail
  | [] => rfl
  | b :: l => by
    have e : splt c (b :: l) = if b = c then [] :: splt c l else (b :: (splt c l).headD []) :: (splt c l).tail := rfl
    rw [e]
    split <;> rfl
theorem splt_ne (c : UInt8) (l : List UInt8) : splt c l ≠ [] := by rw [splt_cons]; simp
theorem splt_at {c : UInt8} (l : List UInt8) : ∀ {w : List UInt8}, c ∉ w → splt c (w ++ c :: l) = w :: splt c l
  | [], _ => by show (if c = c then _ else _) = _; rw [if_pos rfl]
  | b :: w, h => by
    have hb : b ≠ c := fun e => h (e ▸ List.mem_cons_self ..)
    show (if b = c then [] :: splt c (w ++ c :: l) else (b :: (splt c (w ++ c :: l)).headD []) :: (splt c (w ++ c :: l)).tail) = _
    rw [if_neg hb, splt_at l fun h' => h (List.mem_cons_of_mem _ h')]; rfl
theorem splt_one {c : UInt8} : ∀ {w : List UInt8}, c ∉ w → splt c w = [w]
  | [], _ => rfl
  | b :: w, h => by
    have hb : b ≠ c := fun e => h (e ▸ List.mem_cons_self ..)
    show (if b = c then _ else _) = _
    rw [if_neg hb, splt_one fun h' => h (List.mem_cons_of_mem _ h')]; rfl
theorem join_more (x y : List UInt8) (r : List (List UInt8)) (c : UInt8) : join (x :: y :: r) [c] = x ++ c :: join (y :: r) [c] := by
  rw [join_cons, join_cons]
  simp [joinTail]
theorem join_splt (c : UInt8) : ∀ s, join (splt c s) [c] = s
  | [] => by show join [[]] [c] = []; rw [join_one]
  | b :: l => by
    have ih := join_splt c l
    have hc := splt_cons c l
    show join (if b = c then _ else _) [c] = _
    split
    · rename_i e
      subst e
      rw [hc, join_more, ← hc, ih]; rfl
    · generalize (splt c l).headD [] = w at hc ⊢
      generalize (splt c l).tail = r at hc ⊢
      rw [hc] at ih
      rw [join_cons] at ih ⊢
      rw [← ih]; rfl
theorem at_first (c : UInt8) : ∀ s : List UInt8, c ∉ s ∨ ∃ a b, s = a ++ c :: b ∧ c ∉ a
  | [] => .inl List.not_mem_nil
  | x :: s => by
    by_cases e : x = c
    · subst e; exact .inr ⟨[], s, rfl, List.not_mem_nil⟩
    · rcases at_first c s with h | ⟨a, b, h, h2⟩
      · exact .inl fun hm => by
          rcases List.mem_cons.1 hm with e' | hm
          · exact e e'.symm
          · exact h hm
      · refine .inr ⟨x :: a, b, by rw [h]; rfl, fun hm => ?_⟩
        rcases List.mem_cons.1 hm with e' | hm
        · exact e e'.symm
        · exact h2 hm
theorem index_miss {c : UInt8} : ∀ {s : List UInt8}, c ∉ s → index s [c] = -1
  | [], _ => rfl
  | x :: s, h => by
    have hx : (c == x) = false := beq_false_of_ne fun e => h (e ▸ List.mem_cons_self ..)
    unfold index
    rw [if_neg (by simp [List.isPrefixOf, hx]), index_miss fun h' => h (List.mem_cons_of_mem _ h')]; rfl
theorem index_at {c : UInt8} (b : List UInt8) : ∀ {a : List UInt8}, c ∉ a → index (a ++ c :: b) [c] = a.length
  | [], _ => by
    show index (c :: b) [c] = _
    unfold index
    rw [if_pos (by simp [List.isPrefixOf])]; rfl
  | x :: a, h => by
    have hx : (c == x) = false := beq_false_of_ne fun e => h (e ▸ List.mem_cons_self ..)
    have ih := index_at b (a := a) fun h' => h (List.mem_cons_of_mem _ h')
    show index (x :: (a ++ c :: b)) [c] = _
    unfold index
    rw [if_neg (by simp [List.isPrefixOf, hx]), ih, if_neg (by simp), List.length_cons]; omega
theorem cut_miss {c : UInt8} {s : List UInt8} (h : c ∉ s) : cut s [c] = (s, [], false) := by
  unfold cut
  rw [index_miss h, if_neg (by decide)]
theorem cut_at {c : UInt8} {a : List UInt8} (b : List UInt8) (h : c ∉ a) : cut (a ++ c :: b) [c] = (a, b, true) := by
  unfold cut
  rw [index_at b h, if_pos (by omega)]
  have e : (a ++ c :: b).drop (a.length + 1) = b := by
    rw [show a ++ c :: b = (a ++ [c]) ++ b by simp]
    exact List.drop_left' (by simp)
  rw [show ((a.length : Nat) : Int).toNat = a.length by omega, show ([c] : List UInt8).length = 1 from rfl, e, List.take_left]
theorem splitK_splt {c : UInt8} : ∀ (k : Nat) (s : List UInt8), count s [c] ≤ k → splitK [c] 0 k s = splt c s
  | k, s, h => by
    rcases at_first c s with hm | ⟨a, b, rfl, ha⟩
    · rw [splt_one hm]
      cases k with
      | zero => rfl
      | succ k => unfold splitK; rw [index_miss hm]; rfl
    · have hi := index_at b ha
      have hc := count_hit (sub := [c]) (by simp) hi
      have e : (a ++ c :: b).drop (a.length + ([c] : List UInt8).length) = b := by
        rw [show a ++ c :: b = (a ++ [c]) ++ b by simp]
        exact List.drop_left' (by simp)
      rw [e] at hc
      cases k with
      | zero => omega
      | succ k =>
        unfold splitK
        rw [hi, if_neg (by simp), show ((a.length : Nat) : Int).toNat = a.length by omega, e, splt_at b ha, splitK_splt k b (by omega), Nat.add_zero, List.take_left]
theorem dd_long : ∀ (k u : Nat), (decDigits u).length ≤ k → u < 10 ^ k
  | 0, u, h => absurd (List.length_eq_zero_iff.1 (Nat.le_zero.1 h)) (dd_ne u)
  | k + 1, u, h => by
    by_cases hu : u < 10
    · exact Nat.lt_of_lt_of_le hu (by rw [Nat.pow_succ]; have := Nat.pow_pos (n := k) (show 0 < 10 by decide); omega)
    · rw [decDigits, dif_neg hu, List.length_append, List.length_singleton] at h
      have := dd_long k (u / 10) (by omega)
      rw [Nat.pow_succ]; omega
/-- The number of a word. -/
def numW (w : List UInt8) : Option Int := match atoiAll w with
  | .ok n => if n < 0 ∨ 9 < w.length ∨ itoa n ≠ w then none else some n
  | _ => none
def okI (n : Int) : Prop := 0 ≤ n ∧ (itoa n).length ≤ 9
theorem numW_iff {w : List UInt8} {n : Int} : numW w = some n ↔ w = itoa n ∧ okI n := by
  unfold numW okI
  constructor
  · intro h
    split at h
    · split at h
      · cases h
      · rename_i m hm hn
        injection h with h
        subst h
        refine ⟨?_, by omega, ?_⟩
        · exact Classical.byContradiction fun e => hn (.inr (.inr fun e' => e e'.symm))
        · have : itoa m = w := Classical.byContradiction fun e => hn (.inr (.inr e))
          rw [this]; exact Nat.le_of_not_lt fun e => hn (.inr (.inl e))
    · cases h
  · rintro ⟨rfl, h0, h9⟩
    have hb : n.toNat < 10 ^ 9 := dd_long 9 _ (by unfold itoa at h9; rwa [if_neg (by omega)] at h9)
    rw [atoi_itoa n (by omega) (by omega)]
    show (if n < 0 ∨ 9 < (itoa n).length ∨ itoa n ≠ itoa n then none else some n) = _
    rw [if_neg]
    rintro (h | h | h)
    · omega
    · omega
    · exact h rfl
def gableW : List UInt8 := [103, 97, 98, 108, 101]
def ringW : List UInt8 := [114, 105, 110, 103]
def wordsOf (s : Sd) : List (List UInt8) := if s.gable then [itoa s.x, itoa s.y, gableW, itoa s.plate, itoa s.over] else [itoa s.x, itoa s.y, itoa s.rise, itoa s.run, itoa s.plate, itoa s.over]
def lineOf (s : Sd) : List UInt8 := join (wordsOf s) [32]
/-- The numbers of words, if all of them are numbers. -/
def numsW : List (List UInt8) → Option (List Int)
  | [] => some []
  | w :: ws => match numW w, numsW ws with
    | some n, some ns => some (n :: ns)
    | _, _ => none
theorem numsW_iff : ∀ {ws : List (List UInt8)} {ns : List Int}, numsW ws = some ns ↔ ws = ns.map itoa ∧ ∀ n ∈ ns, okI n
  | [], ns => by
    constructor
    · intro h
      injection h with h
      subst h
      exact ⟨rfl, fun n h => absurd h List.not_mem_nil⟩
    · rintro ⟨h, _⟩
      cases ns with
      | nil => rfl
      | cons => cases h
  | w :: ws, ns => by
    unfold numsW
    constructor
    · intro h
      split at h
      · rename_i n ms h1 h2
        injection h with h
        subst h
        obtain ⟨e1, o1⟩ := numW_iff.1 h1
        obtain ⟨e2, o2⟩ := numsW_iff.1 h2
        refine ⟨by rw [e1, e2]; rfl, fun m hm => ?_⟩
        rcases List.mem_cons.1 hm with rfl | hm
        · exact o1
        · exact o2 m hm
      · cases h
    · rintro ⟨h, ho⟩
      cases ns with
      | nil => cases h
      | cons n ms =>
        injection h with h1 h2
        rw [numW_iff.2 ⟨h1, ho n (List.mem_cons_self ..)⟩, numsW_iff.2 ⟨h2, fun m hm => ho m (List.mem_cons_of_mem _ hm)⟩]
def okSd (s : Sd) : Prop := okI s.x ∧ okI s.y ∧ (s.gable = true → s.rise = 0 ∧ s.run = 0) ∧ (s.gable = false → okI s.rise ∧ okI s.run) ∧ okI s.plate ∧ okI s.over
/-- The side of a line. -/
def sideP (line : List UInt8) : Option Sd :=
  if (splt 32 line).length = 5 ∧ (splt 32 line)[2]? = some gableW then
    match numsW ((splt 32 line).take 2 ++ (splt 32 line).drop 3) with
    | some [a, b, c, d] => some ⟨a, b, 0, 0, true, c, d⟩
    | _ => none
  else match numsW (splt 32 line) with
    | some [a, b, c, d, e, f] => some ⟨a, b, c, d, false, e, f⟩
    | _ => none
theorem sideP_some {line : List UInt8} {s : Sd} (h : sideP line = some s) : line = lineOf s ∧ okSd s := by
  have hj := join_splt 32 line
  unfold sideP at h
  split at h
  · rename_i hc
    split at h
    · rename_i a b c d hn
      injection h with h
      subst h
      obtain ⟨e, ho⟩ := numsW_iff.1 hn
      have h1 := ho a (by simp)
      have h2 := ho b (by simp)
      have h3 := ho c (by simp)
      have h4 := ho d (by simp)
      refine ⟨?_, h1, h2, fun _ => ⟨rfl, rfl⟩, fun h => (by cases h), h3, h4⟩
      rw [← hj]
      have : splt 32 line = [itoa a, itoa b, gableW, itoa c, itoa d] := by
        obtain ⟨hl, hw⟩ := hc
        generalize splt 32 line = ws at *
        match ws, hl with
        | [w1, w2, w3, w4, w5], _ =>
          simp only [List.take, List.drop, List.cons_append, List.nil_append, List.map, List.cons.injEq, and_true, List.getElem?_cons_succ, List.getElem?_cons_zero, Option.some.injEq] at e hw
          obtain ⟨e1, e2, e3, e4⟩ := e
          rw [e1, e2, e3, e4, hw]
      rw [this]; rfl
    · cases h
  · split at h
    · rename_i a b c d e f hn
      injection h with h
      subst h
      obtain ⟨e', ho⟩ := numsW_iff.1 hn
      refine ⟨?_, ho a (by simp), ho b (by simp), fun h => (by cases h), fun _ => ⟨ho c (by simp), ho d (by simp)⟩, ho e (by simp), ho f (by simp)⟩
      rw [← hj, e']; rfl
    · cases h
def lns (l : List Sd) : List (List UInt8) := ringW :: l.map lineOf
def planLines (rs : List (List Sd)) : List (List UInt8) := (rs.map lns).flatten
def unl (ls : List (List UInt8)) : List UInt8 := (ls.map (· ++ [10])).flatten
def planText (rs : List (List Sd)) : List UInt8 := unl (planLines rs)
/-- What lines make of the rings that are read. -/
def parseL : List (List Sd) → List (List UInt8) → Option (List (List Sd))
  | rs, [] => some rs
  | rs, [last] => if last = [] then some rs else none
  | rs, line :: next :: ls => if line = ringW then parseL (rs ++ [[]]) (next :: ls) else match sideP line with
    | none => none
    | some x => if rs = [] then none else parseL (rs.dropLast ++ [rs.getLastD [] ++ [x]]) (next :: ls)
def parseF (rs : List (List Sd)) (s : List UInt8) : Option (List (List Sd)) := parseL rs (splt 10 s)
theorem parseF_nil (rs : List (List Sd)) : parseF rs [] = some rs := rfl
theorem parseF_miss {rs : List (List Sd)} {s : List UInt8} (h : (10 : UInt8) ∉ s) (h0 : s ≠ []) : parseF rs s = none := by
  unfold parseF
  rw [splt_one h]
  show (if s = [] then _ else _) = _
  rw [if_neg h0]
theorem parseF_at {rs : List (List Sd)} {a : List UInt8} (b : List UInt8) (h : (10 : UInt8) ∉ a) : parseF rs (a ++ 10 :: b) = if a = ringW then parseF (rs ++ [[]]) b else match sideP a with
    | none => none
    | some x => if rs = [] then none else parseF (rs.dropLast ++ [rs.getLastD [] ++ [x]]) b := by
  unfold parseF
  rw [splt_at b h, splt_cons 10 b]
  rfl
theorem unl_cons (l : List UInt8) (ls : List (List UInt8)) : unl (l :: ls) = l ++ 10 :: unl ls := by simp [unl]
theorem unl_app (a b : List (List UInt8)) : unl (a ++ b) = unl a ++ unl b := by simp [unl]
theorem planText_app (a b : List (List Sd)) : planText (a ++ b) = planText a ++ planText b := by simp [planText, planLines, unl]
theorem planText_push {rs : List (List Sd)} (h : rs ≠ []) (x : Sd) : planText (rs.dropLast ++ [rs.getLastD [] ++ [x]]) = planText rs ++ (lineOf x ++ [10]) := by
  have e : rs = rs.dropLast ++ [rs.getLastD []] := by
    conv => lhs; rw [← List.dropLast_concat_getLast h]
    rw [List.getLastD_eq_getLast?, List.getLast?_eq_some_getLast h]; rfl
  conv => rhs; rw [e]
  rw [planText_app, planText_app, List.append_assoc]
  congr 1
  simp [planText, planLines, lns, unl]
/-- What is read has the text that it was read from. -/
theorem parseF_text : ∀ (n : Nat) {rs out : List (List Sd)} {s : List UInt8}, s.length ≤ n → parseF rs s = some out → (∀ l ∈ rs, ∀ x ∈ l, okSd x) → planText out = planText rs ++ s ∧ ∀ l ∈ out, ∀ x ∈ l, okSd x
  | n, rs, out, s, hn, h, ho => by
    rcases at_first 10 s with hm | ⟨a, b, rfl, ha⟩
    · by_cases h0 : s = []
      · subst h0
        injection h with h
        subst h
        exact ⟨by rw [List.append_nil], ho⟩
      · rw [parseF_miss hm h0] at h; cases h
    · rw [parseF_at b ha] at h
      rw [List.length_append, List.length_cons] at hn
      cases n with
      | zero => omega
      | succ n =>
        split at h
        · rename_i e
          subst e
          obtain ⟨h1, h2⟩ := parseF_text n (by omega) h (fun l hl x hx => by
            rcases List.mem_append.1 hl with hl | hl
            · exact ho l hl x hx
            · obtain rfl := List.mem_singleton.1 hl; cases hx)
          refine ⟨?_, h2⟩
          rw [h1, planText_app, List.append_assoc]
          rfl
        · split at h
          · cases h
          · rename_i x hx
            split at h
            · cases h
            · rename_i hr
              obtain ⟨e, hok⟩ := sideP_some hx
              obtain ⟨h1, h2⟩ := parseF_text n (by omega) h (fun l hl y hy => by
                rcases List.mem_append.1 hl with hl | hl
                · exact ho l (List.dropLast_subset _ hl) y hy
                · obtain rfl := List.mem_singleton.1 hl
                  rcases List.mem_append.1 hy with hy | hy
                  · refine ho _ ?_ y hy
                    rw [List.getLastD_eq_getLast?, List.getLast?_eq_some_getLast hr]
                    exact List.getLast_mem hr
                  · obtain rfl := List.mem_singleton.1 hy; exact hok)
              refine ⟨?_, h2⟩
              rw [h1, planText_push hr, e]
              simp
end Go.Proofs.YtnpfkmbcejgnjaaGreatDoor
