/-
  The reference: lie the rings as they must; are reflex corners right, and not all sides gables.
-/
import Derived.Test.YtnpfkmbcejgnjaaGreatDoorRef2
import Derived.Test.YtnpfkmbcejgnjaaGreatDoorPlace
import Derived.Test.YtnpfkmbcejgnjaaGreatDoorJoin
namespace Go.Proofs.YtnpfkmbcejgnjaaGreatDoor
open Go Go.RowKit Go.Am
set_option maxRecDepth 10000
-- BOXES 2
def plsR (rs : List (List Sd)) (r s : Nat) : Bool := (s == r) || (insR (rg rs s) (sd (rg rs r) 0).x (sd (rg rs r) 0).y (rg rs s).length == (s == 0))
def plrR (rs : List (List Sd)) (r : Nat) : Bool := (r == 0) || (!decide (twR (rg rs r) (rg rs r).length ≥ 0) && (List.range rs.length).all (plsR rs r))
def plcR (rs : List (List Sd)) : Bool := !decide (twR (rg rs 0) (rg rs 0).length ≤ 0) && (List.range rs.length).all (plrR rs)
set_option maxHeartbeats 8000000 in
theorem placedR_gives (W : World) (p : Option Addr) (cap : Nat) (rs : List (List Sd)) (hn : rs.length < 4611686018427387904) (hl : ∀ l ∈ rs, l.length < 4611686018427387904) (hne : ∀ l ∈ rs, l ≠ []) (h0 : 0 < rs.length) (hR : RingsP W p rs) :
    CallsR Tryz.prog 67 #[slv p rs.length cap] W (fun _ : Unit => .bool (plcR rs)) (fun _ => True) (fun _ => []) := by
  obtain ⟨b, off, rfl, hrow⟩ := hR.row h0
  obtain ⟨q0, cap0, hq1, hq2⟩ := hrow 0 h0
  refine calls_enter (args := [slv (some ⟨b, off, none⟩) rs.length cap]) Tryz.func67 rfl rfl rfl ?_
  refine zA ?_
  refine zB ?_
  refine wl_pure Tryz.hT rfl rfl rfl ?_
  refine wl_nil ?_
  refine zE ?_
  refine zA ?_
  refine zA ?_
  refine zB ?_
  refine wl_pure Tryz.hT rfl rfl rfl ?_
  refine wl_indexAddr Tryz.hT rfl rfl rfl rfl rfl rfl rfl (by omega) (by omega) ?_
  refine wl_load rfl rfl rfl rfl (fun W hp => RowAt.load 0 Tryz.hT rfl ((fun W hp => hq1.hp hp) W hp) rfl) ?_
  refine wl_call1 rfl rfl rfl rfl rfl rfl (by kernel_rfl) (fun W hp => twice_gives W q0 cap0 (rg rs 0) (hl _ (List.mem_of_getElem? (rg_get h0))) (hq2.hp hp)) ?_
  refine wl_pure Tryz.hT rfl rfl rfl ?_
  refine wl_nil ?_
  refine zE ?_
  refine wc_cond rfl (fun h => ?_) (fun h => ?_)
  · refine zA ?_
    refine zB ?_
    refine wl_pure Tryz.hT rfl rfl rfl ?_
    refine wl_nil ?_
    refine zE ?_
    refine zO ?_
    refine zP ?_
    have hf : plcR rs = false := by unfold plcR; rw [show decide (twR (rg rs 0) (rg rs 0).length ≤ 0) = true from h]; rfl
    exact ne_ret1 Tryz.hT rfl (.tmp rfl) () (by rw [hf]) trivial fun W _ => NewBx.nil _ _
  have hA : decide (twR (rg rs 0) (rg rs 0).length ≤ 0) = false := h
  clear h
  refine zI ?_
  refine zE ?_
  refine zA ?_
  refine zA ?_
  refine zB ?_
  refine wl_pure Tryz.hT rfl rfl rfl ?_
  refine wl_nil ?_
  refine zE ?_
  refine zH ?_
  refine wc_loop (X := Nat) (fun r => [(0, slv (some ⟨b, off, none⟩) rs.length cap), (3, .int .i64 (r : Nat))]) (fun _ => []) (fun r => 1 ≤ r ∧ r ≤ rs.length ∧ ∀ j, j < r → plrR rs j = true) (fun r => rs.length - r) 1
    ⟨Nat.le_refl _, h0, fun j hj => by rw [show j = 0 by omega]; rfl⟩ ⟨rfl, rfl, trivial⟩ [] rfl ?_
  rintro r ⟨hr1, hr, hok⟩
  refine zA ?_
  refine zA ?_
  refine zB ?_
  refine wl_pure Tryz.hT rfl rfl rfl ?_
  refine wl_pure Tryz.hT rfl rfl rfl ?_
  refine wl_pure Tryz.hT rfl rfl rfl ?_
  refine wl_pure Tryz.hT rfl rfl rfl ?_
  refine wl_nil ?_
  refine zE ?_
  refine wc_cond rfl (fun h => ?_) (fun h => ?_)
  rotate_left
  · have e : r = rs.length := by simp at h; omega
    subst e
    refine zJ ?_
    refine zK ?_
    refine zK ?_
    refine zL ?_
    refine zE ?_
    refine zA ?_
    refine zB ?_
    refine wl_pure Tryz.hT rfl rfl rfl ?_
    refine wl_nil ?_
    refine zE ?_
    refine zO ?_
    have ht : plcR rs = true := by unfold plcR; rw [hA, List.all_eq_true.2 fun j hj => hok j (List.mem_range.1 hj)]; rfl
    exact ne_ret1 Tryz.hT rfl (.tmp rfl) () (by rw [ht]) trivial fun W _ => NewBx.nil _ _
  have hr : r < rs.length := by simp at h; omega
  clear h
  obtain ⟨q, cap2, hq3, hq4⟩ := hrow r hr
  have hlr := hl _ (List.mem_of_getElem? (rg_get hr))
  have hner : 0 < (rg rs r).length := List.length_pos_iff.2 (hne _ (List.mem_of_getElem? (rg_get hr)))
  have hr0 : (r == 0) = false := beq_eq_false_iff_ne.2 (by omega)
  refine zI ?_
  refine zE ?_
  refine zA ?_
  refine zH ?_
  refine zA ?_
  refine zA ?_
  refine zB ?_
  refine wl_pure Tryz.hT rfl rfl rfl ?_
  refine wl_pure Tryz.hT rfl rfl rfl ?_
  refine wl_indexAddr Tryz.hT rfl rfl rfl rfl rfl rfl rfl (by omega) (by omega) ?_
  refine wl_load rfl rfl rfl rfl (fun W hp => RowAt.load 0 Tryz.hT rfl ((fun W hp => hq3.hp hp) W hp) rfl) ?_
  refine wl_call1 rfl rfl rfl rfl rfl rfl (by kernel_rfl) (fun W hp => twice_gives W q cap2 (rg rs r) hlr (hq4.hp hp)) ?_
  refine wl_pure Tryz.hT rfl rfl rfl ?_
  refine wl_nil ?_
  refine zE ?_
  refine wc_cond rfl (fun h => ?_) (fun h => ?_)
  · refine zA ?_
    refine zB ?_
    refine wl_pure Tryz.hT rfl rfl rfl ?_
    refine wl_nil ?_
    refine zE ?_
    refine zO ?_
    refine zP ?_
    refine zQ ?_
    refine zP ?_
    refine zP ?_
    refine zQ ?_
    refine zP ?_
    have hf : plcR rs = false := by unfold plcR; rw [all_range_false hr (by unfold plrR; rw [hr0, show decide (twR (rg rs r) (rg rs r).length ≥ 0) = true from h]; rfl), Bool.and_false]
    exact ne_ret1 Tryz.hT rfl (.tmp rfl) () (by rw [hf]) trivial fun W _ => NewBx.nil _ _
  have hB : decide (twR (rg rs r) (rg rs r).length ≥ 0) = false := h
  clear h
  refine zI ?_
  refine zE ?_
  refine zA ?_
  refine zB ?_
  refine wl_pure Tryz.hT rfl rfl rfl ?_
  refine wl_nil ?_
  refine zE ?_
  refine zH ?_
  refine wc_loop (X := Nat) (fun s => [(0, slv (some ⟨b, off, none⟩) rs.length cap), (3, .int .i64 (r : Nat)), (4, .int .i64 (s : Nat))]) (fun _ => []) (fun s => s ≤ rs.length ∧ ∀ j, j < s → plsR rs r j = true) (fun s => rs.length - s) 0
    ⟨Nat.zero_le _, fun j hj => absurd hj (Nat.not_lt_zero _)⟩ ⟨rfl, rfl, rfl, trivial⟩ [] rfl ?_
  rintro s ⟨hs, hoks⟩
  refine zA ?_
  refine zA ?_
  refine zB ?_
  refine wl_pure Tryz.hT rfl rfl rfl ?_
  refine wl_pure Tryz.hT rfl rfl rfl ?_
  refine wl_pure Tryz.hT rfl rfl rfl ?_
  refine wl_pure Tryz.hT rfl rfl rfl ?_
  refine wl_nil ?_
  refine zE ?_
  refine wc_cond rfl (fun h => ?_) (fun h => ?_)
  rotate_left
  · have e : s = rs.length := by simp at h; omega
    subst e
    refine zJ ?_
    refine zK ?_
    refine zK ?_
    refine zL ?_
    refine zN ?_
    refine zE ?_
    refine zB ?_
    refine wl_pure Tryz.hT rfl rfl rfl ?_
    refine wl_pure Tryz.hT rfl rfl rfl ?_
    refine wl_pure Tryz.hT rfl rfl rfl ?_
    refine wl_nil ?_
    refine ne_loop (r + 1) ⟨by omega, hr, fun j hj => ?_⟩ (by omega) ⟨rfl, congrArg (fun z => some (Value.int .i64 z)) (wrap_id (x := (r : Int) + 1) (by omega) (by omega)), trivial⟩ [] rfl
    by_cases e : j = r
    · subst e
      unfold plrR
      rw [hB, List.all_eq_true.2 fun m hm => hoks m (List.mem_range.1 hm), hr0]; rfl
    · exact hok j (by omega)
  have hs : s < rs.length := by simp at h; omega
  clear h
  obtain ⟨q', cap3, hq5, hq6⟩ := hrow s hs
  have hls := hl _ (List.mem_of_getElem? (rg_get hs))
  have next : plsR rs r s = true → ∀ j, j < s + 1 → plsR rs r j = true := fun h j hj => by
    by_cases e : j = s
    · subst e; exact h
    · exact hoks j (by omega)
  obtain ⟨b3, off3, rfl, hrow3⟩ := hq4.row hner
  refine zI ?_
  refine zE ?_
  refine zA ?_
  refine zH ?_
  refine zA ?_
  refine zT Tryz.mixed (by kernel_rfl) ?_
  refine wq_pure Tryz.hT rfl rfl rfl ?_
  refine wq_pure Tryz.hT rfl rfl rfl ?_
  refine wq_pure Tryz.hT rfl rfl rfl ?_
  refine wq_pure Tryz.hT rfl rfl rfl ?_
  refine wq_part 31 rfl (fun h31 => ?_) (fun h31 => ?_)
  · refine wq_pure Tryz.hT rfl rfl rfl ?_
    refine wq_pure Tryz.hT rfl rfl rfl ?_
    refine wq_indexAddr Tryz.hT rfl rfl rfl rfl rfl rfl rfl (by omega) (by omega) ?_
    refine wq_load rfl rfl rfl rfl (fun W hp => RowAt.load 0 Tryz.hT rfl ((fun W hp => hq5.hp hp) W hp) rfl) ?_
    refine wq_pure Tryz.hT rfl rfl rfl ?_
    refine wq_pure Tryz.hT rfl rfl rfl ?_
    refine wq_indexAddr Tryz.hT rfl rfl rfl rfl rfl rfl rfl (by omega) (by omega) ?_
    refine wq_load rfl rfl rfl rfl (fun W hp => RowAt.load 0 Tryz.hT rfl ((fun W hp => hq3.hp hp) W hp) rfl) ?_
    refine wq_indexAddr Tryz.hT rfl rfl rfl rfl rfl rfl rfl (by omega) (by omega) ?_
    refine wq_pure Tryz.hT rfl rfl rfl ?_
    refine wq_load rfl rfl rfl rfl (fun W hp => RowAt.load 0 Tryz.hT rfl ((fun W hp => (hrow3 0 hner).hp hp) W hp) rfl) ?_
    refine wq_pure Tryz.hT rfl rfl rfl ?_
    refine wq_pure Tryz.hT rfl rfl rfl ?_
    refine wq_indexAddr Tryz.hT rfl rfl rfl rfl rfl rfl rfl (by omega) (by omega) ?_
    refine wq_load rfl rfl rfl rfl (fun W hp => RowAt.load 0 Tryz.hT rfl ((fun W hp => hq3.hp hp) W hp) rfl) ?_
    refine wq_indexAddr Tryz.hT rfl rfl rfl rfl rfl rfl rfl (by omega) (by omega) ?_
    refine wq_pure Tryz.hT rfl rfl rfl ?_
    refine wq_load rfl rfl rfl rfl (fun W hp => RowAt.load 1 Tryz.hT rfl ((fun W hp => (hrow3 0 hner).hp hp) W hp) rfl) ?_
    refine wq_call1 rfl rfl rfl rfl rfl rfl (by kernel_rfl) (fun W hp => insideR_gives W q' cap3 (rg rs s) _ _ hls (hq6.hp hp)) ?_
    refine wq_pure Tryz.hT rfl rfl rfl ?_
    refine wq_pure Tryz.hT rfl rfl rfl ?_
    refine wq_eqB Tryz.underlying4 rfl rfl rfl rfl rfl rfl ?_
    refine wq_pure Tryz.hT rfl rfl rfl ?_
    refine wq_nil ?_
    refine wl_nil ?_
    have e : (s == r) = false := by have h' : ((s : Int) != (r : Int)) = true := h31; rw [bne_iff_ne] at h'; rw [beq_eq_false_iff_ne]; omega
    refine zE ?_
    refine wc_cond rfl (fun h => ?_) (fun h => ?_)
    · refine zA ?_
      refine zB ?_
      refine wl_pure Tryz.hT rfl rfl rfl ?_
      refine wl_nil ?_
      refine zE ?_
      refine zO ?_
      refine zQ ?_
      refine zP ?_
      refine zP ?_
      refine zQ ?_
      refine zQ ?_
      refine zP ?_
      refine zP ?_
      refine zQ ?_
      refine zP ?_
      have h' : (insR (rg rs s) (sd (rg rs r) 0).x (sd (rg rs r) 0).y (rg rs s).length == (s == 0)) = false := by
        rw [← natInt_beq s 0]
        have h2 : (!(insR (rg rs s) (sd (rg rs r) 0).x (sd (rg rs r) 0).y (rg rs s).length == ((s : Int) == 0))) = true := h
        simpa using h2
      have hf : plcR rs = false := by unfold plcR; rw [all_range_false hr (by unfold plrR; rw [hr0, all_range_false hs (by unfold plsR; rw [e, h']; rfl), Bool.and_false]; rfl), Bool.and_false]
      exact ne_ret1 Tryz.hT rfl (.tmp rfl) () (by rw [hf]) trivial fun W _ => NewBx.nil _ _
    · have h' : (insR (rg rs s) (sd (rg rs r) 0).x (sd (rg rs r) 0).y (rg rs s).length == (s == 0)) = true := by
        rw [← natInt_beq s 0]
        have h2 : (!(insR (rg rs s) (sd (rg rs r) 0).x (sd (rg rs r) 0).y (rg rs s).length == ((s : Int) == 0))) = false := h
        simpa using h2
      refine zI ?_
      refine zN ?_
      refine zE ?_
      refine zB ?_
      refine wl_pure Tryz.hT rfl rfl rfl ?_
      refine wl_pure Tryz.hT rfl rfl rfl ?_
      refine wl_pure Tryz.hT rfl rfl rfl ?_
      refine wl_nil ?_
      exact ne_loop (s + 1) ⟨hs, next (by unfold plsR; rw [h', Bool.or_true])⟩ (by omega) ⟨rfl, rfl, congrArg (fun z => some (Value.int .i64 z)) (wrap_id (x := (s : Int) + 1) (by omega) (by omega)), trivial⟩ [] rfl
  · refine wq_skip rfl rfl ?_
    refine wq_skip rfl rfl ?_
    refine wq_skip rfl rfl ?_
    refine wq_skip rfl rfl ?_
    refine wq_skip rfl rfl ?_
    refine wq_skip rfl rfl ?_
    refine wq_skip rfl rfl ?_
    refine wq_skip rfl rfl ?_
    refine wq_skip rfl rfl ?_
    refine wq_skip rfl rfl ?_
    refine wq_skip rfl rfl ?_
    refine wq_skip rfl rfl ?_
    refine wq_skip rfl rfl ?_
    refine wq_skip rfl rfl ?_
    refine wq_skip rfl rfl ?_
    refine wq_skip rfl rfl ?_
    refine wq_skip rfl rfl ?_
    refine wq_skip rfl rfl ?_
    refine wq_skip rfl rfl ?_
    refine wq_skip rfl rfl ?_
    refine wq_skip rfl rfl ?_
    refine wq_skip rfl rfl ?_
    refine wq_pure Tryz.hT rfl rfl rfl ?_
    refine wq_nil ?_
    refine wl_nil ?_
    have e : (s == r) = true := by have h' : ((s : Int) != (r : Int)) = false := h31; rw [bne_eq_false_iff_eq] at h'; rw [beq_iff_eq]; omega
    refine zE ?_
    refine zS rfl ?_
    refine zI ?_
    refine zN ?_
    refine zE ?_
    refine zB ?_
    refine wl_pure Tryz.hT rfl rfl rfl ?_
    refine wl_pure Tryz.hT rfl rfl rfl ?_
    refine wl_pure Tryz.hT rfl rfl rfl ?_
    refine wl_nil ?_
    exact ne_loop (s + 1) ⟨hs, next (by unfold plsR; rw [e]; rfl)⟩ (by omega) ⟨rfl, rfl, congrArg (fun z => some (Value.int .i64 z)) (wrap_id (x := (s : Int) + 1) (by omega) (by omega)), trivial⟩ [] rfl
def refS (l : List Sd) (k : Nat) : Bool := !(decide (trnR l k < 0) && ((sd l (prv l.length k)).gable || (sd l k).gable || ((sd l (prv l.length k)).plate != (sd l k).plate)))
def jndR (rs : List (List Sd)) : Bool := rs.all (fun l => (List.range l.length).all (refS l)) && someRs rs rs.length
set_option maxHeartbeats 8000000 in
theorem reflex_gives (W : World) (p : Option Addr) (cap : Nat) (rs : List (List Sd)) (hn : rs.length < 4611686018427387904) (hl : ∀ l ∈ rs, l.length < 4611686018427387904) (hR : RingsP W p rs) :
    CallsR Tryz.prog 68 #[slv p rs.length cap] W (fun _ : Unit => .bool (jndR rs)) (fun _ => True) (fun _ => []) := by
  refine calls_enter (args := [slv p rs.length cap]) Tryz.func68 rfl rfl rfl ?_
  refine zA ?_
  refine zB ?_
  refine wl_pure Tryz.hT rfl rfl rfl ?_
  refine wl_nil ?_
  refine zE ?_
  refine zA ?_
  refine zB ?_
  refine wl_pure Tryz.hT rfl rfl rfl ?_
  refine wl_nil ?_
  refine zE ?_
  refine zA ?_
  refine zA ?_
  refine zB ?_
  refine wl_pure Tryz.hT rfl rfl rfl ?_
  refine wl_nil ?_
  refine zE ?_
  refine zH ?_
  refine wc_loop (X := Nat) (fun r => [(0, slv p rs.length cap), (3, .bool (someRs rs r)), (4, .int .i64 (r : Nat))]) (fun _ => []) (fun r => r ≤ rs.length ∧ ∀ j, j < r → (List.range (rg rs j).length).all (refS (rg rs j)) = true) (fun r => rs.length - r) 0
    ⟨Nat.zero_le _, fun j hj => absurd hj (Nat.not_lt_zero _)⟩ ⟨rfl, rfl, rfl, trivial⟩ [] rfl ?_
  rintro r ⟨hr, hok⟩
  refine zA ?_
  refine zA ?_
  refine zB ?_
  refine wl_pure Tryz.hT rfl rfl rfl ?_
  refine wl_pure Tryz.hT rfl rfl rfl ?_
  refine wl_pure Tryz.hT rfl rfl rfl ?_
  refine wl_pure Tryz.hT rfl rfl rfl ?_
  refine wl_nil ?_
  refine zE ?_
  refine wc_cond rfl (fun h => ?_) (fun h => ?_)
  rotate_left
  · have e : r = rs.length := by simp at h; omega
    subst e
    refine zJ ?_
    refine zK ?_
    refine zK ?_
    refine zL ?_
    refine zE ?_
    refine zA ?_
    refine zB ?_
    refine wl_pure Tryz.hT rfl rfl rfl ?_
    refine wl_pure Tryz.hT rfl rfl rfl ?_
    refine wl_nil ?_
    refine zE ?_
    refine zO ?_
    have ht : jndR rs = someRs rs rs.length := by
      unfold jndR
      rw [List.all_eq_true.2 fun l hl => ?_, Bool.true_and]
      obtain ⟨j, hj, e⟩ := List.getElem_of_mem hl
      have := hok j hj
      rw [show rg rs j = l by simp [rg, hj, e]] at this
      exact this
    exact ne_ret1 Tryz.hT rfl (.tmp rfl) () (by rw [ht]) trivial fun W _ => NewBx.nil _ _
  have hr : r < rs.length := by simp at h; omega
  clear h
  obtain ⟨b, off, rfl, hrow⟩ := hR.row hr
  obtain ⟨q, cap2, hq1, hq2⟩ := hrow r hr
  have hlr := hl _ (List.mem_of_getElem? (rg_get hr))
  refine zI ?_
  refine zE ?_
  refine zA ?_
  refine zH ?_
  refine zA ?_
  refine zB ?_
  refine wl_pure Tryz.hT rfl rfl rfl ?_
  refine wl_pure Tryz.hT rfl rfl rfl ?_
  refine wl_indexAddr Tryz.hT rfl rfl rfl rfl rfl rfl rfl (by omega) (by omega) ?_
  refine wl_load rfl rfl rfl rfl (fun W hp => RowAt.load 0 Tryz.hT rfl ((fun W hp => hq1.hp hp) W hp) rfl) ?_
  refine wl_pure Tryz.hT rfl rfl rfl ?_
  refine wl_nil ?_
  refine zE ?_
  refine zA ?_
  refine zB ?_
  refine wl_pure Tryz.hT rfl rfl rfl ?_
  refine wl_nil ?_
  refine zE ?_
  refine zH ?_
  refine wc_loop (X := Nat) (fun i => [(0, slv (some ⟨b, off, none⟩) rs.length cap), (3, .bool (someUp (rg rs r) (someRs rs r) i)), (4, .int .i64 (r : Nat)), (5, slv q (rg rs r).length cap2), (6, .int .i64 (i : Nat))]) (fun _ => []) (fun i => i ≤ (rg rs r).length ∧ ∀ j, j < i → refS (rg rs r) j = true) (fun i => (rg rs r).length - i) 0
    ⟨Nat.zero_le _, fun j hj => absurd hj (Nat.not_lt_zero _)⟩ ⟨rfl, rfl, rfl, rfl, rfl, trivial⟩ [] rfl ?_
  rintro i ⟨hi, hoki⟩
  refine zA ?_
  refine zA ?_
  refine zB ?_
  refine wl_pure Tryz.hT rfl rfl rfl ?_
  refine wl_pure Tryz.hT rfl rfl rfl ?_
  refine wl_pure Tryz.hT rfl rfl rfl ?_
  refine wl_pure Tryz.hT rfl rfl rfl ?_
  refine wl_nil ?_
  refine zE ?_
  refine wc_cond rfl (fun h => ?_) (fun h => ?_)
  rotate_left
  · have e : i = (rg rs r).length := by simp at h; omega
    subst e
    refine zJ ?_
    refine zK ?_
    refine zK ?_
    refine zL ?_
    refine zN ?_
    refine zE ?_
    refine zB ?_
    refine wl_pure Tryz.hT rfl rfl rfl ?_
    refine wl_pure Tryz.hT rfl rfl rfl ?_
    refine wl_pure Tryz.hT rfl rfl rfl ?_
    refine wl_nil ?_
    refine ne_loop (r + 1) ⟨hr, fun j hj => ?_⟩ (by omega) ⟨rfl, rfl, congrArg (fun z => some (Value.int .i64 z)) (wrap_id (x := (r : Int) + 1) (by omega) (by omega)), trivial⟩ [] rfl
    by_cases e : j = r
    · subst e; exact List.all_eq_true.2 fun m hm => hoki m (List.mem_range.1 hm)
    · exact hok j (by omega)
  have hi : i < (rg rs r).length := by simp at h; omega
  clear h
  have hi2 := prv_lt hi
  obtain ⟨b3, off3, rfl, hrow3⟩ := hq2.row hi
  have bad : refS (rg rs r) i = false → jndR rs = false := fun h => by
    unfold jndR
    have : rs.all (fun l => (List.range l.length).all (refS l)) = false := Bool.eq_false_iff.2 fun e => by
      have := List.all_eq_true.1 e _ (List.mem_of_getElem? (rg_get hr))
      rw [all_range_false hi h] at this; cases this
    rw [this]; rfl
  have good : refS (rg rs r) i = true → ∀ j, j < i + 1 → refS (rg rs r) j = true := fun h j hj => by
    by_cases e : j = i
    · subst e; exact h
    · exact hoki j (by omega)
  refine zI ?_
  refine zE ?_
  refine wc_seq ?_
  refine wc_block ?_
  repeat refine wc_seq ?_
  refine wc_lateS (X := Nat × Nat) (fun y => [(0, slv (some ⟨b, off, none⟩) rs.length cap), (3, .bool (someUp (rg rs r) (someRs rs r) i)), (4, .int .i64 (r : Nat)), (5, slv (some ⟨b3, off3, none⟩) (rg rs r).length cap2), (6, .int .i64 (i : Nat)), (7, .pointer (some ⟨y.1, 0, none⟩)), (8, .pointer (some ⟨y.2, 0, none⟩))])
    (fun y => [⟨y.1, 42, (sd (rg rs r) (prv (rg rs r).length i)).cells, true, none⟩, ⟨y.2, 42, (sd (rg rs r) i).cells, true, none⟩]) 4 Tryz.mixed (by kernel_rfl) ?_ ?_
  · refine wq_pure Tryz.hT rfl rfl rfl ?_
    refine wq_pure Tryz.hT rfl rfl rfl ?_
    refine wq_pure Tryz.hT rfl rfl rfl ?_
    refine wq_pure Tryz.hT rfl rfl rfl ?_
    refine wq_pure Tryz.hT rfl rfl rfl ?_
    refine wq_pure Tryz.hT rfl rfl rfl ?_
    refine wq_upd 30 (.int .i64 ((i + (rg rs r).length - 1 : Nat) : Int)) rfl (congrArg (Value.int .i64) (show w64 (w64 ((i : Nat) + ((rg rs r).length : Nat)) - 1) = ((i + (rg rs r).length - 1 : Nat) : Int) by rw [w64_id (x := (i : Nat) + ((rg rs r).length : Nat)) (by omega) (by omega), w64_id (by omega) (by omega)]; omega)) ?_
    refine wq_pure Tryz.hT rfl rfl rfl ?_
    refine wq_pure Tryz.hT rfl rfl rfl ?_
    refine wq_rem rfl rfl rfl rfl rfl (by omega) ?_
    refine wq_upd 33 (.int .i64 (prv (rg rs r).length i : Nat)) rfl (congrArg (Value.int .i64) (show Int.tmod ((i + (rg rs r).length - 1 : Nat) : Int) ((rg rs r).length : Nat) = (prv (rg rs r).length i : Nat) from (Int.ofNat_tmod _ _).symm)) ?_
    refine wq_indexAddr Tryz.hT rfl rfl rfl rfl rfl rfl rfl (by omega) (by omega) ?_
    refine wq_load rfl rfl rfl rfl (fun W hp => RowAt.load 0 Tryz.hT rfl ((fun W hp => (hrow3 _ hi2).hp hp) W hp) rfl) ?_
    refine wq_pure Tryz.hT rfl rfl rfl ?_
    refine wq_pure Tryz.hT rfl rfl rfl ?_
    refine wq_indexAddr Tryz.hT rfl rfl rfl rfl rfl rfl rfl (by omega) (by omega) ?_
    refine wq_load rfl rfl rfl rfl (fun W hp => RowAt.load 0 Tryz.hT rfl ((fun W hp => (hrow3 i hi).hp hp) W hp) rfl) ?_
    refine wq_wt ?_
    refine wt_step rfl rfl (by ((repeat (first | refine Weak.same ?_ | refine Weak.off rfl ?_)); exact trivial)) ?_
    refine RS.cons ?_ (RS.cons ?_ (RS.nil))
    · refine wl_allocZ Tryz.hZ rfl rfl rfl rfl ?_; intro b7
      refine wl_nil ?_
      refine ne_wt ?_
      refine wt_step rfl rfl (by ((repeat (first | refine Weak.same ?_ | refine Weak.off rfl ?_)); exact trivial)) ?_
      refine RS.cons ?_ (RS.nil)
      refine wl_allocZ Tryz.hZ rfl rfl rfl rfl ?_; intro b8
      refine wl_nil ?_
      refine ne_wt ?_
      refine wt_step rfl rfl (by ((repeat (first | refine Weak.same ?_ | refine Weak.off rfl ?_)); exact trivial)) ?_
      refine RS.cons ?_ (RS.nil)
      refine wl_storeBx 0 Tryz.hT rfl rfl rfl rfl rfl rfl rfl rfl rfl rfl rfl ?_
      refine wl_nil ?_
      refine ne_wt ?_
      refine wt_step rfl rfl (by ((repeat (first | refine Weak.same ?_ | refine Weak.off rfl ?_)); exact trivial)) ?_
      refine RS.cons ?_ (RS.nil)
      refine wl_storeBx 1 Tryz.hT rfl rfl rfl rfl rfl rfl rfl rfl rfl rfl rfl ?_
      refine wl_nil ?_
      refine ne_wt ?_
      (first | refine wt_done rfl (by ((repeat (first | refine Weak.same ?_ | refine Weak.off rfl ?_)); exact trivial)) ?_ | refine wt_doneF rfl (by kernel_rfl) ?_); (first | exact ne_late (b7, b8) ⟨rfl, rfl, rfl, rfl, rfl, rfl, rfl, trivial⟩ [0, 1] (by decide) rfl | exact ne_late (b7, b8) ⟨rfl, rfl, rfl, rfl, rfl, rfl, rfl, trivial⟩ [1, 0] (by decide) rfl)
    · refine wl_allocZ Tryz.hZ rfl rfl rfl rfl ?_; intro b8
      refine wl_nil ?_
      refine ne_wt ?_
      refine wt_step rfl rfl (by ((repeat (first | refine Weak.same ?_ | refine Weak.off rfl ?_)); exact trivial)) ?_
      refine RS.cons ?_ (RS.nil)
      refine wl_allocZ Tryz.hZ rfl rfl rfl rfl ?_; intro b7
      refine wl_nil ?_
      refine ne_wt ?_
      refine wt_step rfl rfl (by ((repeat (first | refine Weak.same ?_ | refine Weak.off rfl ?_)); exact trivial)) ?_
      refine RS.cons ?_ (RS.nil)
      refine wl_storeBx 1 Tryz.hT rfl rfl rfl rfl rfl rfl rfl rfl rfl rfl rfl ?_
      refine wl_nil ?_
      refine ne_wt ?_
      refine wt_step rfl rfl (by ((repeat (first | refine Weak.same ?_ | refine Weak.off rfl ?_)); exact trivial)) ?_
      refine RS.cons ?_ (RS.nil)
      refine wl_storeBx 0 Tryz.hT rfl rfl rfl rfl rfl rfl rfl rfl rfl rfl rfl ?_
      refine wl_nil ?_
      refine ne_wt ?_
      (first | refine wt_done rfl (by ((repeat (first | refine Weak.same ?_ | refine Weak.off rfl ?_)); exact trivial)) ?_ | refine wt_doneF rfl (by kernel_rfl) ?_); (first | exact ne_late (b7, b8) ⟨rfl, rfl, rfl, rfl, rfl, rfl, rfl, trivial⟩ [0, 1] (by decide) rfl | exact ne_late (b7, b8) ⟨rfl, rfl, rfl, rfl, rfl, rfl, rfl, trivial⟩ [1, 0] (by decide) rfl)
  rintro ⟨b7, b8⟩
  obtain ⟨C1, c1⟩ : ∃ b, decide (trnR (rg rs r) i < 0) = b := ⟨_, rfl⟩
  obtain ⟨C4, c4⟩ : ∃ b, ((sd (rg rs r) (prv (rg rs r).length i)).plate != (sd (rg rs r) i).plate) = b := ⟨_, rfl⟩
  have hC : refS (rg rs r) i = !(C1 && ((sd (rg rs r) (prv (rg rs r).length i)).gable || (sd (rg rs r) i).gable || C4)) := by unfold refS; rw [c1, c4]
  refine zE ?_
  refine zA ?_
  refine zA ?_
  refine zB ?_
  refine wl_pure Tryz.hT rfl rfl rfl ?_
  refine wl_pure Tryz.hT rfl rfl rfl ?_
  refine wl_call1 rfl rfl rfl rfl rfl rfl (by kernel_rfl) (fun W hp => turn_gives W _ cap2 (rg rs r) i hlr (hq2.hp hp) hi) ?_
  refine wl_pure Tryz.hT rfl rfl rfl ?_
  refine wl_pure Tryz.hT rfl rfl rfl ?_
  refine wl_part 44 rfl (fun h44 => ?_) (fun h44 => ?_)
  · refine wl_pure Tryz.hT rfl rfl rfl ?_
    refine wl_loadBx 0 Tryz.hT rfl rfl rfl rfl rfl rfl rfl rfl ?_
    refine wl_pure Tryz.hT rfl rfl rfl ?_
    refine wl_part 47 rfl (fun h47 => ?_) (fun h47 => ?_)
    · refine wl_skip rfl rfl ?_
      refine wl_skip rfl rfl ?_
      refine wl_pure Tryz.hT rfl rfl rfl ?_
      refine wl_pure Tryz.hT rfl rfl rfl ?_
      refine wl_skip rfl rfl ?_
      refine wl_skip rfl rfl ?_
      refine wl_skip rfl rfl ?_
      refine wl_skip rfl rfl ?_
      refine wl_skip rfl rfl ?_
      refine wl_pure Tryz.hT rfl rfl rfl ?_
      refine wl_pure Tryz.hT rfl rfl rfl ?_
      refine wl_nil ?_
      have e : refS (rg rs r) i = false := by
        rw [hC, show C1 = true from c1.symm.trans h44]
        first
        | (rw [show (sd (rg rs r) (prv (rg rs r).length i)).gable = true from h47]; rfl)
        | (rw [show (sd (rg rs r) i).gable = true from h51]; cases (sd (rg rs r) (prv (rg rs r).length i)).gable <;> rfl)
      refine zE ?_
      refine zR rfl ?_
      refine zA ?_
      refine zB ?_
      refine wl_pure Tryz.hT rfl rfl rfl ?_
      refine wl_nil ?_
      refine zE ?_
      refine zO ?_
      refine zP ?_
      refine zQ ?_
      refine zP ?_
      refine zP ?_
      refine zQ ?_
      refine zQ ?_
      refine zP ?_
      refine zP ?_
      refine zQ ?_
      refine zP ?_
      exact ne_ret1 Tryz.hT rfl (.tmp rfl) () (by rw [bad e]) trivial fun W _ => NewBx.nil _ _
    · refine wl_pure Tryz.hT rfl rfl rfl ?_
      refine wl_loadBx 1 Tryz.hT rfl rfl rfl rfl rfl rfl rfl rfl ?_
      refine wl_pure Tryz.hT rfl rfl rfl ?_
      refine wl_pure Tryz.hT rfl rfl rfl ?_
      refine wl_part 51 rfl (fun h51 => ?_) (fun h51 => ?_)
      · refine wl_skip rfl rfl ?_
        refine wl_skip rfl rfl ?_
        refine wl_skip rfl rfl ?_
        refine wl_skip rfl rfl ?_
        refine wl_skip rfl rfl ?_
        refine wl_pure Tryz.hT rfl rfl rfl ?_
        refine wl_pure Tryz.hT rfl rfl rfl ?_
        refine wl_nil ?_
        have e : refS (rg rs r) i = false := by
          rw [hC, show C1 = true from c1.symm.trans h44]
          first
          | (rw [show (sd (rg rs r) (prv (rg rs r).length i)).gable = true from h47]; rfl)
          | (rw [show (sd (rg rs r) i).gable = true from h51]; cases (sd (rg rs r) (prv (rg rs r).length i)).gable <;> rfl)
        refine zE ?_
        refine zR rfl ?_
        refine zA ?_
        refine zB ?_
        refine wl_pure Tryz.hT rfl rfl rfl ?_
        refine wl_nil ?_
        refine zE ?_
        refine zO ?_
        refine zP ?_
        refine zQ ?_
        refine zP ?_
        refine zP ?_
        refine zQ ?_
        refine zQ ?_
        refine zP ?_
        refine zP ?_
        refine zQ ?_
        refine zP ?_
        exact ne_ret1 Tryz.hT rfl (.tmp rfl) () (by rw [bad e]) trivial fun W _ => NewBx.nil _ _
      · refine wl_pure Tryz.hT rfl rfl rfl ?_
        refine wl_loadBx 0 Tryz.hT rfl rfl rfl rfl rfl rfl rfl rfl ?_
        refine wl_pure Tryz.hT rfl rfl rfl ?_
        refine wl_loadBx 1 Tryz.hT rfl rfl rfl rfl rfl rfl rfl rfl ?_
        refine wl_pure Tryz.hT rfl rfl rfl ?_
        refine wl_pure Tryz.hT rfl rfl rfl ?_
        refine wl_pure Tryz.hT rfl rfl rfl ?_
        refine wl_nil ?_
        refine zE ?_
        refine wc_cond rfl (fun hx => ?_) (fun hx => ?_)
        · have e : refS (rg rs r) i = false := by
            rw [hC, show C1 = true from c1.symm.trans h44, show C4 = true from c4.symm.trans hx]
            cases (sd (rg rs r) (prv (rg rs r).length i)).gable <;> cases (sd (rg rs r) i).gable <;> rfl
          refine zA ?_
          refine zB ?_
          refine wl_pure Tryz.hT rfl rfl rfl ?_
          refine wl_nil ?_
          refine zE ?_
          refine zO ?_
          refine zP ?_
          refine zQ ?_
          refine zP ?_
          refine zP ?_
          refine zQ ?_
          refine zQ ?_
          refine zP ?_
          refine zP ?_
          refine zQ ?_
          refine zP ?_
          exact ne_ret1 Tryz.hT rfl (.tmp rfl) () (by rw [bad e]) trivial fun W _ => NewBx.nil _ _
        · have e : refS (rg rs r) i = true := by
            rw [hC, show (sd (rg rs r) (prv (rg rs r).length i)).gable = false from h47]
            rw [show (sd (rg rs r) i).gable = false from h51, show C4 = false from c4.symm.trans hx]
            cases C1 <;> rfl
          refine zI ?_
          refine zE ?_
          refine zB ?_
          refine wl_pure Tryz.hT rfl rfl rfl ?_
          refine wl_pure Tryz.hT rfl rfl rfl ?_
          refine wl_part 60 rfl (fun h60 => ?_) (fun h60 => ?_)
          · refine wl_skip rfl rfl ?_
            refine wl_skip rfl rfl ?_
            refine wl_skip rfl rfl ?_
            refine wl_pure Tryz.hT rfl rfl rfl ?_
            refine wl_pure Tryz.hT rfl rfl rfl ?_
            refine wl_nil ?_
            refine zN ?_
            refine zE ?_
            refine zB ?_
            refine wl_pure Tryz.hT rfl rfl rfl ?_
            refine wl_pure Tryz.hT rfl rfl rfl ?_
            refine wl_pure Tryz.hT rfl rfl rfl ?_
            refine wl_nil ?_
            exact ne_loop (i + 1) ⟨hi, good e⟩ (by omega) ⟨rfl, congrArg (fun z => some (Value.bool z)) (show _ = (someUp (rg rs r) (someRs rs r) i || !(sd (rg rs r) i).gable) by first | (rw [show someUp (rg rs r) (someRs rs r) i = true from h60]; rfl) | (rw [show someUp (rg rs r) (someRs rs r) i = false from h60]; rfl)), rfl, rfl, congrArg (fun z => some (Value.int .i64 z)) (wrap_id (x := (i : Int) + 1) (by omega) (by omega)), trivial⟩ [_, _] rfl
          · refine wl_pure Tryz.hT rfl rfl rfl ?_
            refine wl_loadBx 1 Tryz.hT rfl rfl rfl rfl rfl rfl rfl rfl ?_
            refine wl_pure Tryz.hT rfl rfl rfl ?_
            refine wl_pure Tryz.hT rfl rfl rfl ?_
            refine wl_pure Tryz.hT rfl rfl rfl ?_
            refine wl_nil ?_
            refine zN ?_
            refine zE ?_
            refine zB ?_
            refine wl_pure Tryz.hT rfl rfl rfl ?_
            refine wl_pure Tryz.hT rfl rfl rfl ?_
            refine wl_pure Tryz.hT rfl rfl rfl ?_
            refine wl_nil ?_
            exact ne_loop (i + 1) ⟨hi, good e⟩ (by omega) ⟨rfl, congrArg (fun z => some (Value.bool z)) (show _ = (someUp (rg rs r) (someRs rs r) i || !(sd (rg rs r) i).gable) by first | (rw [show someUp (rg rs r) (someRs rs r) i = true from h60]; rfl) | (rw [show someUp (rg rs r) (someRs rs r) i = false from h60]; rfl)), rfl, rfl, congrArg (fun z => some (Value.int .i64 z)) (wrap_id (x := (i : Int) + 1) (by omega) (by omega)), trivial⟩ [_, _] rfl
  · refine wl_skip rfl rfl ?_
    refine wl_skip rfl rfl ?_
    refine wl_skip rfl rfl ?_
    refine wl_skip rfl rfl ?_
    refine wl_skip rfl rfl ?_
    refine wl_skip rfl rfl ?_
    refine wl_skip rfl rfl ?_
    refine wl_skip rfl rfl ?_
    refine wl_skip rfl rfl ?_
    refine wl_skip rfl rfl ?_
    refine wl_skip rfl rfl ?_
    refine wl_skip rfl rfl ?_
    refine wl_skip rfl rfl ?_
    refine wl_pure Tryz.hT rfl rfl rfl ?_
    refine wl_nil ?_
    have e : refS (rg rs r) i = true := by rw [hC, show C1 = false from c1.symm.trans h44]; rfl
    refine zE ?_
    refine zS rfl ?_
    refine zI ?_
    refine zE ?_
    refine zB ?_
    refine wl_pure Tryz.hT rfl rfl rfl ?_
    refine wl_pure Tryz.hT rfl rfl rfl ?_
    refine wl_part 60 rfl (fun h60 => ?_) (fun h60 => ?_)
    · refine wl_skip rfl rfl ?_
      refine wl_skip rfl rfl ?_
      refine wl_skip rfl rfl ?_
      refine wl_pure Tryz.hT rfl rfl rfl ?_
      refine wl_pure Tryz.hT rfl rfl rfl ?_
      refine wl_nil ?_
      refine zN ?_
      refine zE ?_
      refine zB ?_
      refine wl_pure Tryz.hT rfl rfl rfl ?_
      refine wl_pure Tryz.hT rfl rfl rfl ?_
      refine wl_pure Tryz.hT rfl rfl rfl ?_
      refine wl_nil ?_
      exact ne_loop (i + 1) ⟨hi, good e⟩ (by omega) ⟨rfl, congrArg (fun z => some (Value.bool z)) (show _ = (someUp (rg rs r) (someRs rs r) i || !(sd (rg rs r) i).gable) by first | (rw [show someUp (rg rs r) (someRs rs r) i = true from h60]; rfl) | (rw [show someUp (rg rs r) (someRs rs r) i = false from h60]; rfl)), rfl, rfl, congrArg (fun z => some (Value.int .i64 z)) (wrap_id (x := (i : Int) + 1) (by omega) (by omega)), trivial⟩ [_, _] rfl
    · refine wl_pure Tryz.hT rfl rfl rfl ?_
      refine wl_loadBx 1 Tryz.hT rfl rfl rfl rfl rfl rfl rfl rfl ?_
      refine wl_pure Tryz.hT rfl rfl rfl ?_
      refine wl_pure Tryz.hT rfl rfl rfl ?_
      refine wl_pure Tryz.hT rfl rfl rfl ?_
      refine wl_nil ?_
      refine zN ?_
      refine zE ?_
      refine zB ?_
      refine wl_pure Tryz.hT rfl rfl rfl ?_
      refine wl_pure Tryz.hT rfl rfl rfl ?_
      refine wl_pure Tryz.hT rfl rfl rfl ?_
      refine wl_nil ?_
      exact ne_loop (i + 1) ⟨hi, good e⟩ (by omega) ⟨rfl, congrArg (fun z => some (Value.bool z)) (show _ = (someUp (rg rs r) (someRs rs r) i || !(sd (rg rs r) i).gable) by first | (rw [show someUp (rg rs r) (someRs rs r) i = true from h60]; rfl) | (rw [show someUp (rg rs r) (someRs rs r) i = false from h60]; rfl)), rfl, rfl, congrArg (fun z => some (Value.int .i64 z)) (wrap_id (x := (i : Int) + 1) (by omega) (by omega)), trivial⟩ [_, _] rfl
end Go.Proofs.YtnpfkmbcejgnjaaGreatDoor
