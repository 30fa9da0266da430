/-
  The reference: is a ring shaped; have two sides a common point; is a point inside.
-/
import Derived.Test.YtnpfkmbcejgnjaaGreatDoorRef1
namespace Go.Proofs.YtnpfkmbcejgnjaaGreatDoor
open Go Go.RowKit Go.Am
set_option maxRecDepth 10000
-- BOXES 1
def axR (l : List Sd) (i : Nat) : Bool := w64 (w64 (dirX l i * dirX l i) + w64 (dirY l i * dirY l i)) == 1
def okR (l : List Sd) (i : Nat) : Bool := axR l i && !(trnR l i == 0)
def shpR (l : List Sd) : Bool := (List.range l.length).all (okR l) && decide (l.length ≥ 4)
theorem shpR_false {l : List Sd} {k : Nat} (hk : k < l.length) (h : okR l k = false) : shpR l = false := by
  unfold shpR
  rw [all_range_false hk h]; rfl
set_option maxHeartbeats 4000000 in
theorem shapedR_gives (W : World) (p : Option Addr) (cap : Nat) (l : List Sd) (hn : l.length < 4611686018427387904) (hR : RingP W p l) :
    CallsR Tryz.prog 65 #[slv p l.length cap] W (fun _ : Unit => .bool (shpR l)) (fun _ => True) (fun _ => []) := by
  refine calls_enter (args := [slv p l.length cap]) Tryz.func65 rfl rfl rfl ?_
  refine zA ?_
  refine zB ?_
  refine wl_pure Tryz.hT rfl rfl rfl ?_
  refine wl_nil ?_
  refine zE ?_
  refine zA ?_
  refine zA ?_
  refine zB ?_
  refine wl_pure Tryz.hT rfl rfl rfl ?_
  refine wl_nil ?_
  refine zE ?_
  refine zH ?_
  refine wc_loop (X := Nat) (fun k => [(0, slv p l.length cap), (3, .int .i64 (k : Nat))]) (fun _ => []) (fun k => k ≤ l.length ∧ ∀ i, i < k → okR l i = true) (fun k => l.length - k) 0 ⟨Nat.zero_le _, fun i hi => absurd hi (Nat.not_lt_zero _)⟩ ⟨rfl, rfl, trivial⟩ [] rfl ?_
  rintro k ⟨hk, hok⟩
  refine zA ?_
  refine zA ?_
  refine zB ?_
  refine wl_pure Tryz.hT rfl rfl rfl ?_
  refine wl_pure Tryz.hT rfl rfl rfl ?_
  refine wl_pure Tryz.hT rfl rfl rfl ?_
  refine wl_pure Tryz.hT rfl rfl rfl ?_
  refine wl_nil ?_
  refine zE ?_
  refine wc_cond rfl (fun h => ?_) (fun h => ?_)
  rotate_left
  · have e : k = l.length := by simp at h; omega
    subst e
    refine zJ ?_
    refine zK ?_
    refine zK ?_
    refine zL ?_
    refine zE ?_
    refine zA ?_
    refine zB ?_
    refine wl_pure Tryz.hT rfl rfl rfl ?_
    refine wl_pure Tryz.hT rfl rfl rfl ?_
    refine wl_pure Tryz.hT rfl rfl rfl ?_
    refine wl_pure Tryz.hT rfl rfl rfl ?_
    refine wl_nil ?_
    refine zE ?_
    refine zO ?_
    have hall : (List.range l.length).all (okR l) = true := List.all_eq_true.2 fun i hi => hok i (List.mem_range.1 hi)
    have e : shpR l = decide ((l.length : Int) ≥ 4) := by
      unfold shpR
      rw [hall, Bool.true_and]
      by_cases h4 : l.length ≥ 4
      · rw [decide_eq_true h4, decide_eq_true (by omega)]
      · rw [decide_eq_false h4, decide_eq_false (by omega)]
    exact ne_ret1 Tryz.hT rfl (.tmp rfl) () (by rw [e]) trivial fun W _ => NewBx.nil _ _
  have hk : k < l.length := by simp at h; omega
  clear h
  refine zI ?_
  refine zE ?_
  refine zA ?_
  refine zH ?_
  refine zA ?_
  refine zB ?_
  refine wl_pure Tryz.hT rfl rfl rfl ?_
  refine wl_pure Tryz.hT rfl rfl rfl ?_
  refine wl_call1 rfl rfl rfl rfl rfl rfl (by kernel_rfl) (fun W hp => direction_gives W _ cap l k hn (hR.hp hp) hk) ?_
  refine wl_pure Tryz.hT rfl rfl rfl ?_
  refine wl_pure Tryz.hT rfl rfl rfl ?_
  refine wl_pure Tryz.hT rfl rfl rfl ?_
  refine wl_pure Tryz.hT rfl rfl rfl ?_
  refine wl_pure Tryz.hT rfl rfl rfl ?_
  refine wl_nil ?_
  refine zE ?_
  refine zA ?_
  refine zB ?_
  refine wl_pure Tryz.hT rfl rfl rfl ?_
  refine wl_pure Tryz.hT rfl rfl rfl ?_
  refine wl_pure Tryz.hT rfl rfl rfl ?_
  refine wl_pure Tryz.hT rfl rfl rfl ?_
  refine wl_pure Tryz.hT rfl rfl rfl ?_
  refine wl_pure Tryz.hT rfl rfl rfl ?_
  refine wl_pure Tryz.hT rfl rfl rfl ?_
  refine wl_pure Tryz.hT rfl rfl rfl ?_
  refine wl_pure Tryz.hT rfl rfl rfl ?_
  refine wl_part 26 rfl (fun h26 => ?_) (fun h26 => ?_)
  · refine wl_skip rfl rfl ?_
    refine wl_skip rfl rfl ?_
    refine wl_skip rfl rfl ?_
    refine wl_skip rfl rfl ?_
    refine wl_pure Tryz.hT rfl rfl rfl ?_
    refine wl_nil ?_
    refine zE ?_
    refine zR rfl ?_
    refine zA ?_
    refine zB ?_
    refine wl_pure Tryz.hT rfl rfl rfl ?_
    refine wl_nil ?_
    refine zE ?_
    refine zO ?_
    refine zQ ?_
    refine zP ?_
    refine zP ?_
    refine zQ ?_
    refine zP ?_
    have h' : (w64 (w64 (dirX l k * dirX l k) + w64 (dirY l k * dirY l k)) != 1) = true := h26
    have hf : okR l k = false := by unfold okR axR; rw [bne_iff_ne] at h'; rw [beq_eq_false_iff_ne.2 h']; rfl
    exact ne_ret1 Tryz.hT rfl (.tmp rfl) () (by rw [shpR_false hk hf]) trivial fun W _ => NewBx.nil _ _
  · refine wl_pure Tryz.hT rfl rfl rfl ?_
    refine wl_pure Tryz.hT rfl rfl rfl ?_
    refine wl_call1 rfl rfl rfl rfl rfl rfl (by kernel_rfl) (fun W hp => turn_gives W _ cap l k hn (hR.hp hp) hk) ?_
    refine wl_pure Tryz.hT rfl rfl rfl ?_
    refine wl_pure Tryz.hT rfl rfl rfl ?_
    refine wl_nil ?_
    have h' : (w64 (w64 (dirX l k * dirX l k) + w64 (dirY l k * dirY l k)) != 1) = false := h26
    have ha : axR l k = true := by unfold axR; rw [bne_eq_false_iff_eq] at h'; rw [beq_iff_eq]; exact h'
    refine zE ?_
    refine wc_cond rfl (fun h => ?_) (fun h => ?_)
    · refine zA ?_
      refine zB ?_
      refine wl_pure Tryz.hT rfl rfl rfl ?_
      refine wl_nil ?_
      refine zE ?_
      refine zO ?_
      refine zQ ?_
      refine zP ?_
      refine zP ?_
      refine zQ ?_
      refine zP ?_
      have hf : okR l k = false := by unfold okR; rw [show (trnR l k == 0) = true from h, Bool.not_true, Bool.and_false]
      exact ne_ret1 Tryz.hT rfl (.tmp rfl) () (by rw [shpR_false hk hf]) trivial fun W _ => NewBx.nil _ _
    · have hf : okR l k = true := by unfold okR; rw [ha, show (trnR l k == 0) = false from h]; rfl
      refine zI ?_
      refine zN ?_
      refine zE ?_
      refine zB ?_
      refine wl_pure Tryz.hT rfl rfl rfl ?_
      refine wl_pure Tryz.hT rfl rfl rfl ?_
      refine wl_pure Tryz.hT rfl rfl rfl ?_
      refine wl_nil ?_
      refine ne_loop (k + 1) ⟨hk, fun i hi => ?_⟩ (by omega) ⟨rfl, congrArg (fun z => some (Value.int .i64 z)) (wrap_id (x := (k : Int) + 1) (by omega) (by omega)), trivial⟩ [] rfl
      by_cases e : i = k
      · subst e; exact hf
      · exact hok i (by omega)
set_option maxHeartbeats 4000000 in
theorem touch_gives (W : World) (p q : Option Addr) (cap caq : Nat) (l m : List Sd) (i k : Nat) (hn : l.length < 4611686018427387904) (hm : m.length < 4611686018427387904) (hR : RingP W p l) (hS : RingP W q m) (hi : i < l.length) (hk : k < m.length) :
    CallsR Tryz.prog 118 #[slv p l.length cap, .int .i64 (i : Nat), slv q m.length caq, .int .i64 (k : Nat)] W (fun _ : Unit => .bool (meetB (sd l i) (sd l (nxt l.length i)) (sd m k) (sd m (nxt m.length k)))) (fun _ => True) (fun _ => []) := by
  obtain ⟨b, off, rfl, hrow⟩ := hR.row hi
  obtain ⟨b', off', rfl, hrow'⟩ := hS.row hk
  refine calls_enter (args := [slv (some ⟨b, off, none⟩) l.length cap, .int .i64 (i : Nat), slv (some ⟨b', off', none⟩) m.length caq, .int .i64 (k : Nat)]) Tryz.func118 rfl rfl rfl ?_
  refine zA ?_
  refine zB ?_
  refine wl_pure Tryz.hT rfl rfl rfl ?_
  refine wl_nil ?_
  refine zE ?_
  refine zA ?_
  refine zB ?_
  refine wl_pure Tryz.hT rfl rfl rfl ?_
  refine wl_pure Tryz.hT rfl rfl rfl ?_
  refine wl_call1 rfl rfl rfl rfl rfl rfl (by kernel_rfl) (fun W hp => end_gives W _ cap l i hn (hR.hp hp) hi) ?_
  refine wl_pure Tryz.hT rfl rfl rfl ?_
  refine wl_pure Tryz.hT rfl rfl rfl ?_
  refine wl_pure Tryz.hT rfl rfl rfl ?_
  refine wl_pure Tryz.hT rfl rfl rfl ?_
  refine wl_pure Tryz.hT rfl rfl rfl ?_
  refine wl_nil ?_
  refine zE ?_
  refine zA ?_
  refine zB ?_
  refine wl_pure Tryz.hT rfl rfl rfl ?_
  refine wl_pure Tryz.hT rfl rfl rfl ?_
  refine wl_call1 rfl rfl rfl rfl rfl rfl (by kernel_rfl) (fun W hp => end_gives W _ caq m k hm (hS.hp hp) hk) ?_
  refine wl_pure Tryz.hT rfl rfl rfl ?_
  refine wl_pure Tryz.hT rfl rfl rfl ?_
  refine wl_pure Tryz.hT rfl rfl rfl ?_
  refine wl_pure Tryz.hT rfl rfl rfl ?_
  refine wl_pure Tryz.hT rfl rfl rfl ?_
  refine wl_nil ?_
  obtain ⟨B1, e1⟩ : ∃ b, decide (lox (sd l i) (sd l (nxt l.length i)) ≤ hix (sd m k) (sd m (nxt m.length k))) = b := ⟨_, rfl⟩
  obtain ⟨B2, e2⟩ : ∃ b, decide (lox (sd m k) (sd m (nxt m.length k)) ≤ hix (sd l i) (sd l (nxt l.length i))) = b := ⟨_, rfl⟩
  obtain ⟨B3, e3⟩ : ∃ b, decide (loy (sd l i) (sd l (nxt l.length i)) ≤ hiy (sd m k) (sd m (nxt m.length k))) = b := ⟨_, rfl⟩
  obtain ⟨B4, e4⟩ : ∃ b, decide (loy (sd m k) (sd m (nxt m.length k)) ≤ hiy (sd l i) (sd l (nxt l.length i))) = b := ⟨_, rfl⟩
  have hM : meetB (sd l i) (sd l (nxt l.length i)) (sd m k) (sd m (nxt m.length k)) = (B1 && B2 && B3 && B4) := by unfold meetB; rw [e1, e2, e3, e4]
  refine zE ?_
  refine zA ?_
  refine zT Tryz.mixed (by kernel_rfl) ?_
  refine wq_pure Tryz.hT rfl rfl rfl ?_
  refine wq_pure Tryz.hT rfl rfl rfl ?_
  refine wq_indexAddr Tryz.hT rfl rfl rfl rfl rfl rfl rfl (by omega) (by omega) ?_
  refine wq_pure Tryz.hT rfl rfl rfl ?_
  refine wq_load rfl rfl rfl rfl (fun W hp => RowAt.load 0 Tryz.hT rfl ((fun W hp => (hrow i hi).hp hp) W hp) rfl) ?_
  refine wq_pure Tryz.hT rfl rfl rfl ?_
  refine wq_pure Tryz.hT rfl rfl rfl ?_
  refine wq_pure Tryz.hT rfl rfl rfl ?_
  refine wq_pure Tryz.hT rfl rfl rfl ?_
  refine wq_indexAddr Tryz.hT rfl rfl rfl rfl rfl rfl rfl (by omega) (by omega) ?_
  refine wq_pure Tryz.hT rfl rfl rfl ?_
  refine wq_load rfl rfl rfl rfl (fun W hp => RowAt.load 0 Tryz.hT rfl ((fun W hp => (hrow' k hk).hp hp) W hp) rfl) ?_
  refine wq_pure Tryz.hT rfl rfl rfl ?_
  refine wq_pure Tryz.hT rfl rfl rfl ?_
  refine wq_pure Tryz.hT rfl rfl rfl ?_
  refine wq_pure Tryz.hT rfl rfl rfl ?_
  refine wq_part 40 rfl (fun h40 => ?_) (fun h40 => ?_)
  · refine wq_pure Tryz.hT rfl rfl rfl ?_
    refine wq_pure Tryz.hT rfl rfl rfl ?_
    refine wq_indexAddr Tryz.hT rfl rfl rfl rfl rfl rfl rfl (by omega) (by omega) ?_
    refine wq_pure Tryz.hT rfl rfl rfl ?_
    refine wq_load rfl rfl rfl rfl (fun W hp => RowAt.load 0 Tryz.hT rfl ((fun W hp => (hrow' k hk).hp hp) W hp) rfl) ?_
    refine wq_pure Tryz.hT rfl rfl rfl ?_
    refine wq_pure Tryz.hT rfl rfl rfl ?_
    refine wq_pure Tryz.hT rfl rfl rfl ?_
    refine wq_pure Tryz.hT rfl rfl rfl ?_
    refine wq_indexAddr Tryz.hT rfl rfl rfl rfl rfl rfl rfl (by omega) (by omega) ?_
    refine wq_pure Tryz.hT rfl rfl rfl ?_
    refine wq_load rfl rfl rfl rfl (fun W hp => RowAt.load 0 Tryz.hT rfl ((fun W hp => (hrow i hi).hp hp) W hp) rfl) ?_
    refine wq_pure Tryz.hT rfl rfl rfl ?_
    refine wq_pure Tryz.hT rfl rfl rfl ?_
    refine wq_pure Tryz.hT rfl rfl rfl ?_
    refine wq_pure Tryz.hT rfl rfl rfl ?_
    refine wq_pure Tryz.hT rfl rfl rfl ?_
    refine wq_part 57 rfl (fun h57 => ?_) (fun h57 => ?_)
    · refine wq_pure Tryz.hT rfl rfl rfl ?_
      refine wq_pure Tryz.hT rfl rfl rfl ?_
      refine wq_indexAddr Tryz.hT rfl rfl rfl rfl rfl rfl rfl (by omega) (by omega) ?_
      refine wq_pure Tryz.hT rfl rfl rfl ?_
      refine wq_load rfl rfl rfl rfl (fun W hp => RowAt.load 1 Tryz.hT rfl ((fun W hp => (hrow i hi).hp hp) W hp) rfl) ?_
      refine wq_pure Tryz.hT rfl rfl rfl ?_
      refine wq_pure Tryz.hT rfl rfl rfl ?_
      refine wq_pure Tryz.hT rfl rfl rfl ?_
      refine wq_pure Tryz.hT rfl rfl rfl ?_
      refine wq_indexAddr Tryz.hT rfl rfl rfl rfl rfl rfl rfl (by omega) (by omega) ?_
      refine wq_pure Tryz.hT rfl rfl rfl ?_
      refine wq_load rfl rfl rfl rfl (fun W hp => RowAt.load 1 Tryz.hT rfl ((fun W hp => (hrow' k hk).hp hp) W hp) rfl) ?_
      refine wq_pure Tryz.hT rfl rfl rfl ?_
      refine wq_pure Tryz.hT rfl rfl rfl ?_
      refine wq_pure Tryz.hT rfl rfl rfl ?_
      refine wq_pure Tryz.hT rfl rfl rfl ?_
      refine wq_pure Tryz.hT rfl rfl rfl ?_
      refine wq_part 74 rfl (fun h74 => ?_) (fun h74 => ?_)
      · refine wq_pure Tryz.hT rfl rfl rfl ?_
        refine wq_pure Tryz.hT rfl rfl rfl ?_
        refine wq_indexAddr Tryz.hT rfl rfl rfl rfl rfl rfl rfl (by omega) (by omega) ?_
        refine wq_pure Tryz.hT rfl rfl rfl ?_
        refine wq_load rfl rfl rfl rfl (fun W hp => RowAt.load 1 Tryz.hT rfl ((fun W hp => (hrow' k hk).hp hp) W hp) rfl) ?_
        refine wq_pure Tryz.hT rfl rfl rfl ?_
        refine wq_pure Tryz.hT rfl rfl rfl ?_
        refine wq_pure Tryz.hT rfl rfl rfl ?_
        refine wq_pure Tryz.hT rfl rfl rfl ?_
        refine wq_indexAddr Tryz.hT rfl rfl rfl rfl rfl rfl rfl (by omega) (by omega) ?_
        refine wq_pure Tryz.hT rfl rfl rfl ?_
        refine wq_load rfl rfl rfl rfl (fun W hp => RowAt.load 1 Tryz.hT rfl ((fun W hp => (hrow i hi).hp hp) W hp) rfl) ?_
        refine wq_pure Tryz.hT rfl rfl rfl ?_
        refine wq_pure Tryz.hT rfl rfl rfl ?_
        refine wq_pure Tryz.hT rfl rfl rfl ?_
        refine wq_pure Tryz.hT rfl rfl rfl ?_
        refine wq_pure Tryz.hT rfl rfl rfl ?_
        refine wq_nil ?_
        refine wl_nil ?_
        refine zE ?_
        refine zO ?_
        exact ne_ret1 Tryz.hT rfl (.tmp rfl) () (by rw [hM, show B1 = true from e1.symm.trans h40, show B2 = true from e2.symm.trans h57, show B3 = true from e3.symm.trans h74]; exact congrArg Value.bool e4) trivial fun W _ => NewBx.nil _ _
      · refine wq_skip rfl rfl ?_
        refine wq_skip rfl rfl ?_
        refine wq_skip rfl rfl ?_
        refine wq_skip rfl rfl ?_
        refine wq_skip rfl rfl ?_
        refine wq_skip rfl rfl ?_
        refine wq_skip rfl rfl ?_
        refine wq_skip rfl rfl ?_
        refine wq_skip rfl rfl ?_
        refine wq_skip rfl rfl ?_
        refine wq_skip rfl rfl ?_
        refine wq_skip rfl rfl ?_
        refine wq_skip rfl rfl ?_
        refine wq_skip rfl rfl ?_
        refine wq_skip rfl rfl ?_
        refine wq_pure Tryz.hT rfl rfl rfl ?_
        refine wq_pure Tryz.hT rfl rfl rfl ?_
        refine wq_nil ?_
        refine wl_nil ?_
        refine zE ?_
        refine zO ?_
        have e : (B1 && B2 && B3 && B4) = false := by first | (rw [show B1 = false from e1.symm.trans h40]; rfl) | (rw [show B2 = false from e2.symm.trans h57]; cases B1 <;> rfl) | (rw [show B3 = false from e3.symm.trans h74]; cases B1 <;> cases B2 <;> rfl)
        exact ne_ret1 Tryz.hT rfl (.tmp rfl) () (by rw [hM, e]) trivial fun W _ => NewBx.nil _ _
    · refine wq_skip rfl rfl ?_
      refine wq_skip rfl rfl ?_
      refine wq_skip rfl rfl ?_
      refine wq_skip rfl rfl ?_
      refine wq_skip rfl rfl ?_
      refine wq_skip rfl rfl ?_
      refine wq_skip rfl rfl ?_
      refine wq_skip rfl rfl ?_
      refine wq_skip rfl rfl ?_
      refine wq_skip rfl rfl ?_
      refine wq_skip rfl rfl ?_
      refine wq_skip rfl rfl ?_
      refine wq_skip rfl rfl ?_
      refine wq_skip rfl rfl ?_
      refine wq_skip rfl rfl ?_
      refine wq_pure Tryz.hT rfl rfl rfl ?_
      refine wq_pure Tryz.hT rfl rfl rfl ?_
      refine wq_skip rfl rfl ?_
      refine wq_skip rfl rfl ?_
      refine wq_skip rfl rfl ?_
      refine wq_skip rfl rfl ?_
      refine wq_skip rfl rfl ?_
      refine wq_skip rfl rfl ?_
      refine wq_skip rfl rfl ?_
      refine wq_skip rfl rfl ?_
      refine wq_skip rfl rfl ?_
      refine wq_skip rfl rfl ?_
      refine wq_skip rfl rfl ?_
      refine wq_skip rfl rfl ?_
      refine wq_skip rfl rfl ?_
      refine wq_skip rfl rfl ?_
      refine wq_skip rfl rfl ?_
      refine wq_pure Tryz.hT rfl rfl rfl ?_
      refine wq_pure Tryz.hT rfl rfl rfl ?_
      refine wq_nil ?_
      refine wl_nil ?_
      refine zE ?_
      refine zO ?_
      have e : (B1 && B2 && B3 && B4) = false := by first | (rw [show B1 = false from e1.symm.trans h40]; rfl) | (rw [show B2 = false from e2.symm.trans h57]; cases B1 <;> rfl) | (rw [show B3 = false from e3.symm.trans h74]; cases B1 <;> cases B2 <;> rfl)
      exact ne_ret1 Tryz.hT rfl (.tmp rfl) () (by rw [hM, e]) trivial fun W _ => NewBx.nil _ _
  · refine wq_skip rfl rfl ?_
    refine wq_skip rfl rfl ?_
    refine wq_skip rfl rfl ?_
    refine wq_skip rfl rfl ?_
    refine wq_skip rfl rfl ?_
    refine wq_skip rfl rfl ?_
    refine wq_skip rfl rfl ?_
    refine wq_skip rfl rfl ?_
    refine wq_skip rfl rfl ?_
    refine wq_skip rfl rfl ?_
    refine wq_skip rfl rfl ?_
    refine wq_skip rfl rfl ?_
    refine wq_skip rfl rfl ?_
    refine wq_skip rfl rfl ?_
    refine wq_skip rfl rfl ?_
    refine wq_pure Tryz.hT rfl rfl rfl ?_
    refine wq_pure Tryz.hT rfl rfl rfl ?_
    refine wq_skip rfl rfl ?_
    refine wq_skip rfl rfl ?_
    refine wq_skip rfl rfl ?_
    refine wq_skip rfl rfl ?_
    refine wq_skip rfl rfl ?_
    refine wq_skip rfl rfl ?_
    refine wq_skip rfl rfl ?_
    refine wq_skip rfl rfl ?_
    refine wq_skip rfl rfl ?_
    refine wq_skip rfl rfl ?_
    refine wq_skip rfl rfl ?_
    refine wq_skip rfl rfl ?_
    refine wq_skip rfl rfl ?_
    refine wq_skip rfl rfl ?_
    refine wq_skip rfl rfl ?_
    refine wq_pure Tryz.hT rfl rfl rfl ?_
    refine wq_pure Tryz.hT rfl rfl rfl ?_
    refine wq_skip rfl rfl ?_
    refine wq_skip rfl rfl ?_
    refine wq_skip rfl rfl ?_
    refine wq_skip rfl rfl ?_
    refine wq_skip rfl rfl ?_
    refine wq_skip rfl rfl ?_
    refine wq_skip rfl rfl ?_
    refine wq_skip rfl rfl ?_
    refine wq_skip rfl rfl ?_
    refine wq_skip rfl rfl ?_
    refine wq_skip rfl rfl ?_
    refine wq_skip rfl rfl ?_
    refine wq_skip rfl rfl ?_
    refine wq_skip rfl rfl ?_
    refine wq_skip rfl rfl ?_
    refine wq_pure Tryz.hT rfl rfl rfl ?_
    refine wq_pure Tryz.hT rfl rfl rfl ?_
    refine wq_nil ?_
    refine wl_nil ?_
    refine zE ?_
    refine zO ?_
    have e : (B1 && B2 && B3 && B4) = false := by first | (rw [show B1 = false from e1.symm.trans h40]; rfl) | (rw [show B2 = false from e2.symm.trans h57]; cases B1 <;> rfl) | (rw [show B3 = false from e3.symm.trans h74]; cases B1 <;> cases B2 <;> rfl)
    exact ne_ret1 Tryz.hT rfl (.tmp rfl) () (by rw [hM, e]) trivial fun W _ => NewBx.nil _ _
def passR (t u : Sd) (px py : Int) : Bool := (t.x == u.x) && decide (u.x > px) && decide (loy t u ≤ py) && decide (py < hiy t u)
def insR (l : List Sd) (px py : Int) : Nat → Bool
  | 0 => false
  | k + 1 => if passR (sd l k) (sd l (nxt l.length k)) px py = true then !insR l px py k else insR l px py k
set_option maxHeartbeats 4000000 in
theorem insideR_gives (W : World) (p : Option Addr) (cap : Nat) (l : List Sd) (px py : Int) (hn : l.length < 4611686018427387904) (hR : RingP W p l) :
    CallsR Tryz.prog 119 #[slv p l.length cap, .int .i64 px, .int .i64 py] W (fun _ : Unit => .bool (insR l px py l.length)) (fun _ => True) (fun _ => []) := by
  refine calls_enter (args := [slv p l.length cap, .int .i64 px, .int .i64 py]) Tryz.func119 rfl rfl rfl ?_
  refine zA ?_
  refine zB ?_
  refine wl_pure Tryz.hT rfl rfl rfl ?_
  refine wl_nil ?_
  refine zE ?_
  refine zA ?_
  refine zB ?_
  refine wl_pure Tryz.hT rfl rfl rfl ?_
  refine wl_nil ?_
  refine zE ?_
  refine zA ?_
  refine zA ?_
  refine zB ?_
  refine wl_pure Tryz.hT rfl rfl rfl ?_
  refine wl_nil ?_
  refine zE ?_
  refine zH ?_
  refine wc_loop (X := Nat) (fun k => [(0, slv p l.length cap), (1, .int .i64 px), (2, .int .i64 py), (7, .bool (insR l px py k)), (8, .int .i64 (k : Nat))]) (fun _ => []) (fun k => k ≤ l.length) (fun k => l.length - k) 0 (Nat.zero_le _) ⟨rfl, rfl, rfl, rfl, rfl, trivial⟩ [] rfl ?_
  intro k hk
  refine zA ?_
  refine zA ?_
  refine zB ?_
  refine wl_pure Tryz.hT rfl rfl rfl ?_
  refine wl_pure Tryz.hT rfl rfl rfl ?_
  refine wl_pure Tryz.hT rfl rfl rfl ?_
  refine wl_pure Tryz.hT rfl rfl rfl ?_
  refine wl_nil ?_
  refine zE ?_
  refine wc_cond rfl (fun h => ?_) (fun h => ?_)
  rotate_left
  · have e : k = l.length := by simp at h; omega
    subst e
    refine zJ ?_
    refine zK ?_
    refine zK ?_
    refine zL ?_
    refine zE ?_
    refine zA ?_
    refine zB ?_
    refine wl_pure Tryz.hT rfl rfl rfl ?_
    refine wl_pure Tryz.hT rfl rfl rfl ?_
    refine wl_nil ?_
    refine zE ?_
    refine zO ?_
    exact ne_ret1 Tryz.hT rfl (.tmp rfl) () rfl trivial fun W _ => NewBx.nil _ _
  have hk : k < l.length := by simp at h; omega
  clear h
  obtain ⟨b, off, rfl, hrow⟩ := hR.row hk
  refine zI ?_
  refine zE ?_
  refine zA ?_
  refine zH ?_
  refine zA ?_
  refine zB ?_
  refine wl_pure Tryz.hT rfl rfl rfl ?_
  refine wl_pure Tryz.hT rfl rfl rfl ?_
  refine wl_call1 rfl rfl rfl rfl rfl rfl (by kernel_rfl) (fun W hp => end_gives W _ cap l k hn (hR.hp hp) hk) ?_
  refine wl_pure Tryz.hT rfl rfl rfl ?_
  refine wl_pure Tryz.hT rfl rfl rfl ?_
  refine wl_pure Tryz.hT rfl rfl rfl ?_
  refine wl_pure Tryz.hT rfl rfl rfl ?_
  refine wl_pure Tryz.hT rfl rfl rfl ?_
  refine wl_nil ?_
  obtain ⟨B1, e1⟩ : ∃ b, ((sd l k).x == (sd l (nxt l.length k)).x) = b := ⟨_, rfl⟩
  obtain ⟨B2, e2⟩ : ∃ b, decide ((sd l (nxt l.length k)).x > px) = b := ⟨_, rfl⟩
  obtain ⟨B3, e3⟩ : ∃ b, decide (loy (sd l k) (sd l (nxt l.length k)) ≤ py) = b := ⟨_, rfl⟩
  obtain ⟨B4, e4⟩ : ∃ b, decide (py < hiy (sd l k) (sd l (nxt l.length k))) = b := ⟨_, rfl⟩
  have hM : passR (sd l k) (sd l (nxt l.length k)) px py = (B1 && B2 && B3 && B4) := by unfold passR; rw [e1, e2, e3, e4]
  have no : (B1 && B2 && B3 && B4) = false → insR l px py (k + 1) = insR l px py k := fun h => by
    show (if passR (sd l k) (sd l (nxt l.length k)) px py = true then !insR l px py k else insR l px py k) = _
    rw [hM, h, if_neg (by decide)]
  have yes : (B1 && B2 && B3 && B4) = true → insR l px py (k + 1) = !insR l px py k := fun h => by
    show (if passR (sd l k) (sd l (nxt l.length k)) px py = true then !insR l px py k else insR l px py k) = _
    rw [hM, h, if_pos rfl]
  refine zE ?_
  refine zA ?_
  refine zB ?_
  refine wl_pure Tryz.hT rfl rfl rfl ?_
  refine wl_pure Tryz.hT rfl rfl rfl ?_
  refine wl_indexAddr Tryz.hT rfl rfl rfl rfl rfl rfl rfl (by omega) (by omega) ?_
  refine wl_pure Tryz.hT rfl rfl rfl ?_
  refine wl_load rfl rfl rfl rfl (fun W hp => RowAt.load 0 Tryz.hT rfl ((fun W hp => (hrow k hk).hp hp) W hp) rfl) ?_
  refine wl_pure Tryz.hT rfl rfl rfl ?_
  refine wl_pure Tryz.hT rfl rfl rfl ?_
  refine wl_pure Tryz.hT rfl rfl rfl ?_
  refine wl_part 30 rfl (fun h30 => ?_) (fun h30 => ?_)
  · refine wl_pure Tryz.hT rfl rfl rfl ?_
    refine wl_pure Tryz.hT rfl rfl rfl ?_
    refine wl_pure Tryz.hT rfl rfl rfl ?_
    refine wl_pure Tryz.hT rfl rfl rfl ?_
    refine wl_pure Tryz.hT rfl rfl rfl ?_
    refine wl_part 35 rfl (fun h35 => ?_) (fun h35 => ?_)
    · refine wl_pure Tryz.hT rfl rfl rfl ?_
      refine wl_pure Tryz.hT rfl rfl rfl ?_
      refine wl_indexAddr Tryz.hT rfl rfl rfl rfl rfl rfl rfl (by omega) (by omega) ?_
      refine wl_pure Tryz.hT rfl rfl rfl ?_
      refine wl_load rfl rfl rfl rfl (fun W hp => RowAt.load 1 Tryz.hT rfl ((fun W hp => (hrow k hk).hp hp) W hp) rfl) ?_
      refine wl_pure Tryz.hT rfl rfl rfl ?_
      refine wl_pure Tryz.hT rfl rfl rfl ?_
      refine wl_pure Tryz.hT rfl rfl rfl ?_
      refine wl_pure Tryz.hT rfl rfl rfl ?_
      refine wl_pure Tryz.hT rfl rfl rfl ?_
      refine wl_pure Tryz.hT rfl rfl rfl ?_
      refine wl_part 46 rfl (fun h46 => ?_) (fun h46 => ?_)
      · refine wl_pure Tryz.hT rfl rfl rfl ?_
        refine wl_pure Tryz.hT rfl rfl rfl ?_
        refine wl_pure Tryz.hT rfl rfl rfl ?_
        refine wl_indexAddr Tryz.hT rfl rfl rfl rfl rfl rfl rfl (by omega) (by omega) ?_
        refine wl_pure Tryz.hT rfl rfl rfl ?_
        refine wl_load rfl rfl rfl rfl (fun W hp => RowAt.load 1 Tryz.hT rfl ((fun W hp => (hrow k hk).hp hp) W hp) rfl) ?_
        refine wl_pure Tryz.hT rfl rfl rfl ?_
        refine wl_pure Tryz.hT rfl rfl rfl ?_
        refine wl_pure Tryz.hT rfl rfl rfl ?_
        refine wl_pure Tryz.hT rfl rfl rfl ?_
        refine wl_nil ?_
        have e : (B1 && B2 && B3 && B4) = B4 := by rw [show B1 = true from e1.symm.trans h30, show B2 = true from e2.symm.trans h35, show B3 = true from e3.symm.trans h46]; rfl
        refine zE ?_
        refine wc_cond rfl (fun h => ?_) (fun h => ?_)
        · have e5 : (B1 && B2 && B3 && B4) = true := e.trans (e4.symm.trans h)
          refine zB ?_
          refine wl_pure Tryz.hT rfl rfl rfl ?_
          refine wl_pure Tryz.hT rfl rfl rfl ?_
          refine wl_pure Tryz.hT rfl rfl rfl ?_
          refine wl_nil ?_
          refine zN ?_
          refine zE ?_
          refine zB ?_
          refine wl_pure Tryz.hT rfl rfl rfl ?_
          refine wl_pure Tryz.hT rfl rfl rfl ?_
          refine wl_pure Tryz.hT rfl rfl rfl ?_
          refine wl_nil ?_
          exact ne_loop (k + 1) hk (by omega) ⟨rfl, rfl, rfl, congrArg (fun z => some (Value.bool z)) (yes e5).symm, congrArg (fun z => some (Value.int .i64 z)) (wrap_id (x := (k : Int) + 1) (by omega) (by omega)), trivial⟩ [] rfl
        · have e5 : (B1 && B2 && B3 && B4) = false := e.trans (e4.symm.trans h)
          refine zI ?_
          refine zN ?_
          refine zE ?_
          refine zB ?_
          refine wl_pure Tryz.hT rfl rfl rfl ?_
          refine wl_pure Tryz.hT rfl rfl rfl ?_
          refine wl_pure Tryz.hT rfl rfl rfl ?_
          refine wl_nil ?_
          exact ne_loop (k + 1) hk (by omega) ⟨rfl, rfl, rfl, congrArg (fun z => some (Value.bool z)) (no e5).symm, congrArg (fun z => some (Value.int .i64 z)) (wrap_id (x := (k : Int) + 1) (by omega) (by omega)), trivial⟩ [] rfl
      · refine wl_skip rfl rfl ?_
        refine wl_skip rfl rfl ?_
        refine wl_skip rfl rfl ?_
        refine wl_skip rfl rfl ?_
        refine wl_skip rfl rfl ?_
        refine wl_skip rfl rfl ?_
        refine wl_skip rfl rfl ?_
        refine wl_skip rfl rfl ?_
        refine wl_skip rfl rfl ?_
        refine wl_pure Tryz.hT rfl rfl rfl ?_
        refine wl_nil ?_
        have e : (B1 && B2 && B3 && B4) = false := by first | (rw [show B1 = false from e1.symm.trans h30]; rfl) | (rw [show B2 = false from e2.symm.trans h35]; cases B1 <;> rfl) | (rw [show B3 = false from e3.symm.trans h46]; cases B1 <;> cases B2 <;> rfl)
        refine zE ?_
        refine zS rfl ?_
        refine zI ?_
        refine zN ?_
        refine zE ?_
        refine zB ?_
        refine wl_pure Tryz.hT rfl rfl rfl ?_
        refine wl_pure Tryz.hT rfl rfl rfl ?_
        refine wl_pure Tryz.hT rfl rfl rfl ?_
        refine wl_nil ?_
        exact ne_loop (k + 1) hk (by omega) ⟨rfl, rfl, rfl, congrArg (fun z => some (Value.bool z)) (no e).symm, congrArg (fun z => some (Value.int .i64 z)) (wrap_id (x := (k : Int) + 1) (by omega) (by omega)), trivial⟩ [] rfl
    · refine wl_skip rfl rfl ?_
      refine wl_skip rfl rfl ?_
      refine wl_skip rfl rfl ?_
      refine wl_skip rfl rfl ?_
      refine wl_skip rfl rfl ?_
      refine wl_skip rfl rfl ?_
      refine wl_skip rfl rfl ?_
      refine wl_skip rfl rfl ?_
      refine wl_skip rfl rfl ?_
      refine wl_pure Tryz.hT rfl rfl rfl ?_
      refine wl_pure Tryz.hT rfl rfl rfl ?_
      refine wl_skip rfl rfl ?_
      refine wl_skip rfl rfl ?_
      refine wl_skip rfl rfl ?_
      refine wl_skip rfl rfl ?_
      refine wl_skip rfl rfl ?_
      refine wl_skip rfl rfl ?_
      refine wl_skip rfl rfl ?_
      refine wl_skip rfl rfl ?_
      refine wl_skip rfl rfl ?_
      refine wl_pure Tryz.hT rfl rfl rfl ?_
      refine wl_nil ?_
      have e : (B1 && B2 && B3 && B4) = false := by first | (rw [show B1 = false from e1.symm.trans h30]; rfl) | (rw [show B2 = false from e2.symm.trans h35]; cases B1 <;> rfl) | (rw [show B3 = false from e3.symm.trans h46]; cases B1 <;> cases B2 <;> rfl)
      refine zE ?_
      refine zS rfl ?_
      refine zI ?_
      refine zN ?_
      refine zE ?_
      refine zB ?_
      refine wl_pure Tryz.hT rfl rfl rfl ?_
      refine wl_pure Tryz.hT rfl rfl rfl ?_
      refine wl_pure Tryz.hT rfl rfl rfl ?_
      refine wl_nil ?_
      exact ne_loop (k + 1) hk (by omega) ⟨rfl, rfl, rfl, congrArg (fun z => some (Value.bool z)) (no e).symm, congrArg (fun z => some (Value.int .i64 z)) (wrap_id (x := (k : Int) + 1) (by omega) (by omega)), trivial⟩ [] rfl
  · refine wl_skip rfl rfl ?_
    refine wl_skip rfl rfl ?_
    refine wl_skip rfl rfl ?_
    refine wl_pure Tryz.hT rfl rfl rfl ?_
    refine wl_pure Tryz.hT rfl rfl rfl ?_
    refine wl_skip rfl rfl ?_
    refine wl_skip rfl rfl ?_
    refine wl_skip rfl rfl ?_
    refine wl_skip rfl rfl ?_
    refine wl_skip rfl rfl ?_
    refine wl_skip rfl rfl ?_
    refine wl_skip rfl rfl ?_
    refine wl_skip rfl rfl ?_
    refine wl_skip rfl rfl ?_
    refine wl_pure Tryz.hT rfl rfl rfl ?_
    refine wl_pure Tryz.hT rfl rfl rfl ?_
    refine wl_skip rfl rfl ?_
    refine wl_skip rfl rfl ?_
    refine wl_skip rfl rfl ?_
    refine wl_skip rfl rfl ?_
    refine wl_skip rfl rfl ?_
    refine wl_skip rfl rfl ?_
    refine wl_skip rfl rfl ?_
    refine wl_skip rfl rfl ?_
    refine wl_skip rfl rfl ?_
    refine wl_pure Tryz.hT rfl rfl rfl ?_
    refine wl_nil ?_
    have e : (B1 && B2 && B3 && B4) = false := by first | (rw [show B1 = false from e1.symm.trans h30]; rfl) | (rw [show B2 = false from e2.symm.trans h35]; cases B1 <;> rfl) | (rw [show B3 = false from e3.symm.trans h46]; cases B1 <;> cases B2 <;> rfl)
    refine zE ?_
    refine zS rfl ?_
    refine zI ?_
    refine zN ?_
    refine zE ?_
    refine zB ?_
    refine wl_pure Tryz.hT rfl rfl rfl ?_
    refine wl_pure Tryz.hT rfl rfl rfl ?_
    refine wl_pure Tryz.hT rfl rfl rfl ?_
    refine wl_nil ?_
    exact ne_loop (k + 1) hk (by omega) ⟨rfl, rfl, rfl, congrArg (fun z => some (Value.bool z)) (no e).symm, congrArg (fun z => some (Value.int .i64 z)) (wrap_id (x := (k : Int) + 1) (by omega) (by omega)), trivial⟩ [] rfl
end Go.Proofs.YtnpfkmbcejgnjaaGreatDoor
