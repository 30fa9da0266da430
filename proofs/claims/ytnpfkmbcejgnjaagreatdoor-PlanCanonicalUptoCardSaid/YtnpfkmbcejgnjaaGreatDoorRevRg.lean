/-
  slices.Reverse of a part of a row of rings. (Printed by tools/revgen.py rings.)
-/
import Derived.Test.YtnpfkmbcejgnjaaGreatDoorRevAt
namespace Go.Proofs.YtnpfkmbcejgnjaaGreatDoor
open Go Go.RowKit Go.Am
set_option maxRecDepth 10000
-- BOXES 2
abbrev Trip := Option Addr × Nat × Nat
abbrev slT (t : Trip) : Value := slv t.1 t.2.1 t.2.2
abbrev slC (l : List Trip) : List Value := l.map slT
theorem slC_append (l m : List Trip) : slC (l ++ m) = slC l ++ slC m := List.map_append
theorem slC_length (l : List Trip) : (slC l).length = l.length * 1 := by rw [List.length_map, Nat.mul_one]
theorem set_ring (z : Trip) {junk : List Value} {L : List Trip} {j : Nat} (hj : j < L.length) : splice (slC L ++ junk) (j * 1) (slT z).cells.toList = slC (L.set j z) ++ junk := by
  rw [Nat.mul_one]
  show splice _ j [slT z] = _
  rw [splice_at1 _ _ _ (by rw [List.length_append, List.length_map]; omega), List.set_append_left _ _ (by simpa using hj)]
  congr 1
  exact (List.map_set ..).symm
theorem row_ringO {W0 W : World} {bxs : List Bx} (hp : Hp W0 bxs W) (k : Nat) {g : Nat} {pre : List Value} {L : List Trip} {junk : List Value} (hk : nth bxs k = some ⟨g, 27, pre ++ (slC L ++ junk), true, none⟩) {j : Nat} (hj : j < L.length) : RowAt W g (pre.length + j * 1) [slT (L.getD j (none, 0, 0))] := by
  have h := RowAt.of_bx hp k hk rfl
  refine ⟨h.lt, fun m u hu => ?_⟩
  have hm : m = 0 := by have := (List.getElem?_eq_some_iff.1 hu).1; simp at this; omega
  subst hm
  have h1 : (slC L)[j]? = some u := by
    rw [List.getElem?_map, List.getElem?_eq_getElem hj, ← hu, List.getD_eq_getElem?_getD, List.getElem?_eq_getElem hj]; rfl
  have := h.get (pre.length + (j * 1 + 0)) u (by
    show (pre ++ (slC L ++ junk))[pre.length + (j * 1 + 0)]? = some u
    rw [List.getElem?_append_right (by omega), Nat.add_sub_cancel_left, Nat.mul_one, Nat.add_zero, List.getElem?_append_left (by simpa using hj)]
    exact h1)
  rw [Nat.zero_add, ← Nat.add_assoc] at this
  exact this
set_option maxHeartbeats 4000000 in
theorem revring_gives (W : World) (g cap off : Nat) (pre junk : List Value) (l : List Trip) (hoff : off = pre.length) (hn : l.length < 4611686018427387904) (hg : W.heap[g]? = some (.cells (pre ++ (slC l ++ junk)).toArray 27 (0, 0))) :
    Calls Tryz.prog 40 #[.slice (some ⟨g, off, none⟩) l.length cap] W fun e W' => ∃ x : Unit, e = .returned ((fun _ => .tuple #[]) x) ∧ True ∧ Near W W' g ((fun _ => g) x) ((fun _ => .cells (pre ++ (slC l.reverse ++ junk)).toArray 27 (0, 0)) x) := by
  subst hoff
  have key : Calls Tryz.prog 40 [.slice (some ⟨g, pre.length, none⟩) l.length cap].toArray W fun e W' => ∃ x : Unit, e = .returned ((fun _ => .tuple #[]) x) ∧ (fun _ => True) x ∧ Below (noHeap W).heap.size (noHeap W) W' ∧ NewBx (noHeap W) W' ((fun _ => [grpB (othersL W g), ⟨g, 27, pre ++ (slC l.reverse ++ junk), true, none⟩]) x) := by
    refine calls_enterT (X := Unit) (val := fun _ => .tuple #[]) (Φ := fun _ => True) (nb := fun _ => [grpB (othersL W g), ⟨g, 27, pre ++ (slC l.reverse ++ junk), true, none⟩]) (Hp.enterT (B := ⟨g, 27, pre ++ (slC l ++ junk), true, none⟩) rfl hg) Tryz.func40 rfl rfl rfl ?_
    refine zA ?_
    refine zB ?_
    refine wl_pure Tryz.hT rfl rfl rfl ?_
    refine wl_pure Tryz.hT rfl rfl rfl ?_
    refine wl_pure Tryz.hT rfl rfl rfl ?_
    refine wl_upd 6 (.int .i64 ((l.length : Nat) - 1 - (0 : Nat))) rfl (congrArg (Value.int .i64) (show w64 ((l.length : Nat) - 1) = _ by rw [w64_id (by omega) (by omega)]; omega)) ?_
    refine wl_pure Tryz.hT rfl rfl rfl ?_
    refine wl_pure Tryz.hT rfl rfl rfl ?_
    refine wl_nil ?_
    refine zE ?_
    refine zH ?_
    refine wc_loop (X := Nat) (fun k => [(0, .slice (some ⟨g, pre.length, none⟩) l.length cap), (2, .int .i64 (k : Nat)), (3, .int .i64 ((l.length : Nat) - 1 - (k : Nat)))]) (fun k => [grpB (othersL W g), ⟨g, 27, pre ++ (slC (swG (none, 0, 0) l k) ++ junk), true, none⟩])
      (fun k => 2 * k ≤ l.length) (fun k => l.length - k) 0 (Nat.zero_le _) ⟨rfl, rfl, rfl, trivial⟩ [] (by show _ = _ ++ []; rw [swG_zero]; rfl) ?_
    intro k hk
    refine zA ?_
    refine zA ?_
    refine zB ?_
    refine wl_pure Tryz.hT rfl rfl rfl ?_
    refine wl_pure Tryz.hT rfl rfl rfl ?_
    refine wl_pure Tryz.hT rfl rfl rfl ?_
    refine wl_nil ?_
    refine zE ?_
    refine wc_cond rfl (fun h => ?_) (fun h => ?_)
    rotate_left
    · have hd : ¬ k < l.length - 1 - k := by
        have h' : decide ((k : Int) < (l.length : Nat) - 1 - (k : Nat)) = false := h
        rw [decide_eq_false_iff_not] at h'; omega
      rw [swG_done (none, 0, 0) hd]
      refine zJ ?_
      refine zK ?_
      refine zK ?_
      refine zL ?_
      refine ne_end0 (X := Unit) (val := fun _ => .tuple #[]) (Φ := fun _ => True) (nb := fun _ => [grpB (othersL W g), ⟨g, 27, pre ++ (slC l.reverse ++ junk), true, none⟩]) (fn := Tryz.f40) Tryz.hT rfl () rfl trivial fun W1 hp => ?_
      exact (hp.pick (l := [grpB (othersL W g), ⟨g, 27, pre ++ (slC l.reverse ++ junk), true, none⟩]) [0, 1] (by decide) rfl).own
    have hd : k < l.length - 1 - k := by
      have h' : decide ((k : Int) < (l.length : Nat) - 1 - (k : Nat)) = true := h
      rw [decide_eq_true_iff] at h'; omega
    clear h
    have e3 : ((l.length : Nat) : Int) - 1 - (k : Nat) = ((l.length - 1 - k : Nat) : Int) := by omega
    have s1 : (swG (none, 0, 0) l k).getD (l.length - 1 - k) (none, 0, 0) = l.getD (l.length - 1 - k) (none, 0, 0) := by rw [swG_at (none, 0, 0) (by omega), if_neg (by omega)]
    have s2 : (swG (none, 0, 0) l k).getD k (none, 0, 0) = l.getD k (none, 0, 0) := by rw [swG_at (none, 0, 0) (by omega), if_neg (by omega)]
    refine zI ?_
    refine zE ?_
    refine wc_upd 3 (.int .i64 ((l.length - 1 - k : Nat) : Int)) rfl (congrArg (Value.int .i64) e3) ?_
    refine wc_seq ?_
    refine wc_block ?_
    repeat refine wc_seq ?_
    refine wc_lateY (X := Unit) [true, true, false, false, true, true, true, true, true, true, true, true, true, false, false, false] (fun _ => [(0, .slice (some ⟨g, pre.length, none⟩) l.length cap), (2, .int .i64 (k : Nat)), (3, .int .i64 ((l.length - 1 - k : Nat) : Int))]) (fun _ => [grpB (othersL W g), ⟨g, 27, pre ++ (slC (swG (none, 0, 0) l (k + 1)) ++ junk), true, none⟩])
      5 [grpB (othersL W g), ⟨g, 27, pre ++ (slC (swG (none, 0, 0) l k) ++ junk), true, none⟩] Tryz.mixed (by kernel_rfl) ?_ ?_
    · refine wq_pure Tryz.hT rfl rfl rfl ?_
      refine wq_pure Tryz.hT rfl rfl rfl ?_
      refine wq_pure Tryz.hT rfl rfl rfl ?_
      refine wq_pure Tryz.hT rfl rfl rfl ?_
      refine wq_indexAddr Tryz.hT rfl rfl rfl rfl rfl rfl rfl (by omega) (by omega) ?_
      refine wq_load rfl rfl rfl rfl (fun W hp => RowAt.load 0 Tryz.hT rfl ((fun W1 hp => show RowAt W1 g (pre.length + (l.length - 1 - k) * 1) [slT (l.getD (l.length - 1 - k) (none, 0, 0))] from by rw [← s1]; exact row_ringO hp 1 rfl (by rw [swG_len]; omega)) W hp) rfl) ?_
      refine wq_pure Tryz.hT rfl rfl rfl ?_
      refine wq_pure Tryz.hT rfl rfl rfl ?_
      refine wq_indexAddr Tryz.hT rfl rfl rfl rfl rfl rfl rfl (by omega) (by omega) ?_
      refine wq_load rfl rfl rfl rfl (fun W hp => RowAt.load 0 Tryz.hT rfl ((fun W1 hp => show RowAt W1 g (pre.length + k * 1) [slT (l.getD (k) (none, 0, 0))] from by rw [← s2]; exact row_ringO hp 1 rfl (by rw [swG_len]; omega)) W hp) rfl) ?_
      refine wq_indexAddr Tryz.hT rfl rfl rfl rfl rfl rfl rfl (by omega) (by omega) ?_
      refine wq_wt ?_
      have h1 : splice (pre ++ (slC (swG (none, 0, 0) l k) ++ junk)) (pre.length + k * 1) (slT (l.getD (l.length - 1 - k) (none, 0, 0))).cells.toList = pre ++ (slC ((swG (none, 0, 0) l k).set k (l.getD (l.length - 1 - k) (none, 0, 0))) ++ junk) := by
        rw [splice_right]; congr 1; exact set_ring _ (by rw [swG_len]; omega)
      have h2 : splice (pre ++ (slC ((swG (none, 0, 0) l k).set k (l.getD (l.length - 1 - k) (none, 0, 0))) ++ junk)) (pre.length + (l.length - 1 - k) * 1) (slT (l.getD (k) (none, 0, 0))).cells.toList = pre ++ (slC (swG (none, 0, 0) l (k + 1)) ++ junk) := by
        rw [splice_right, swG_succ (none, 0, 0) hd]; congr 1; exact set_ring _ (by rw [List.length_set, swG_len]; omega)
      refine wt_step rfl rfl (by ((repeat (first | refine Weak.same ?_ | refine Weak.off rfl ?_)); exact trivial)) ?_
      refine RS.cons ?_ (RS.cons ?_ (RS.cons ?_ (RS.nil)))
      · refine wl_pure Tryz.hT rfl rfl rfl ?_
        refine wl_nil ?_
        refine ne_wt ?_
        refine wt_step rfl rfl (by ((repeat (first | refine Weak.same ?_ | refine Weak.off rfl ?_)); exact trivial)) ?_
        refine RS.cons ?_ (RS.cons ?_ (RS.nil))
        · refine wl_pure Tryz.hT rfl rfl rfl ?_
          refine wl_nil ?_
          refine ne_wt ?_
          refine wt_step rfl rfl (by ((repeat (first | refine Weak.same ?_ | refine Weak.off rfl ?_)); exact trivial)) ?_
          refine RS.cons ?_ (RS.nil)
          refine wl_storeTo 1 _ Tryz.hT rfl rfl rfl rfl rfl rfl rfl rfl rfl rfl (by show pre.length + k * 1 + 1 ≤ (pre ++ (slC (swG (none, 0, 0) l k) ++ junk)).length; rw [List.length_append, List.length_append, slC_length, swG_len]; omega) h1 ?_
          refine wl_nil ?_
          refine ne_wt ?_
          refine wt_stepF rfl rfl (by kernel_rfl) ?_
          refine RS.cons ?_ (RS.nil)
          refine wl_indexAddr Tryz.hT rfl rfl rfl rfl rfl rfl rfl (by omega) (by omega) ?_
          refine wl_nil ?_
          refine ne_wt ?_
          refine wt_stepF rfl rfl (by kernel_rfl) ?_
          refine RS.cons ?_ (RS.nil)
          refine wl_storeTo 1 _ Tryz.hT rfl rfl rfl rfl rfl rfl rfl rfl rfl rfl (by show pre.length + (l.length - 1 - k) * 1 + 1 ≤ (pre ++ (slC ((swG (none, 0, 0) l k).set k (l.getD (l.length - 1 - k) (none, 0, 0))) ++ junk)).length; rw [List.length_append, List.length_append, slC_length, List.length_set, swG_len]; omega) h2 ?_
          refine wl_nil ?_
          refine ne_wt ?_
          refine wt_doneF rfl (by kernel_rfl) ?_
          exact ne_late () ⟨rfl, rfl, rfl, trivial⟩ [0, 1] (by decide) rfl
        · refine wl_storeTo 1 _ Tryz.hT rfl rfl rfl rfl rfl rfl rfl rfl rfl rfl (by show pre.length + k * 1 + 1 ≤ (pre ++ (slC (swG (none, 0, 0) l k) ++ junk)).length; rw [List.length_append, List.length_append, slC_length, swG_len]; omega) h1 ?_
          refine wl_nil ?_
          refine ne_wt ?_
          refine wt_stepF rfl rfl (by kernel_rfl) ?_
          refine RS.cons ?_ (RS.nil)
          refine wl_pure Tryz.hT rfl rfl rfl ?_
          refine wl_nil ?_
          refine ne_wt ?_
          refine wt_stepF rfl rfl (by kernel_rfl) ?_
          refine RS.cons ?_ (RS.nil)
          refine wl_indexAddr Tryz.hT rfl rfl rfl rfl rfl rfl rfl (by omega) (by omega) ?_
          refine wl_nil ?_
          refine ne_wt ?_
          refine wt_stepF rfl rfl (by kernel_rfl) ?_
          refine RS.cons ?_ (RS.nil)
          refine wl_storeTo 1 _ Tryz.hT rfl rfl rfl rfl rfl rfl rfl rfl rfl rfl (by show pre.length + (l.length - 1 - k) * 1 + 1 ≤ (pre ++ (slC ((swG (none, 0, 0) l k).set k (l.getD (l.length - 1 - k) (none, 0, 0))) ++ junk)).length; rw [List.length_append, List.length_append, slC_length, List.length_set, swG_len]; omega) h2 ?_
          refine wl_nil ?_
          refine ne_wt ?_
          refine wt_doneF rfl (by kernel_rfl) ?_
          exact ne_late () ⟨rfl, rfl, rfl, trivial⟩ [0, 1] (by decide) rfl
      · refine wl_pure Tryz.hT rfl rfl rfl ?_
        refine wl_nil ?_
        refine ne_wt ?_
        refine wt_step rfl rfl (by ((repeat (first | refine Weak.same ?_ | refine Weak.off rfl ?_)); exact trivial)) ?_
        refine RS.cons ?_ (RS.cons ?_ (RS.nil))
        · refine wl_pure Tryz.hT rfl rfl rfl ?_
          refine wl_nil ?_
          refine ne_wt ?_
          refine wt_step rfl rfl (by ((repeat (first | refine Weak.same ?_ | refine Weak.off rfl ?_)); exact trivial)) ?_
          refine RS.cons ?_ (RS.nil)
          refine wl_storeTo 1 _ Tryz.hT rfl rfl rfl rfl rfl rfl rfl rfl rfl rfl (by show pre.length + k * 1 + 1 ≤ (pre ++ (slC (swG (none, 0, 0) l k) ++ junk)).length; rw [List.length_append, List.length_append, slC_length, swG_len]; omega) h1 ?_
          refine wl_nil ?_
          refine ne_wt ?_
          refine wt_stepF rfl rfl (by kernel_rfl) ?_
          refine RS.cons ?_ (RS.nil)
          refine wl_indexAddr Tryz.hT rfl rfl rfl rfl rfl rfl rfl (by omega) (by omega) ?_
          refine wl_nil ?_
          refine ne_wt ?_
          refine wt_stepF rfl rfl (by kernel_rfl) ?_
          refine RS.cons ?_ (RS.nil)
          refine wl_storeTo 1 _ Tryz.hT rfl rfl rfl rfl rfl rfl rfl rfl rfl rfl (by show pre.length + (l.length - 1 - k) * 1 + 1 ≤ (pre ++ (slC ((swG (none, 0, 0) l k).set k (l.getD (l.length - 1 - k) (none, 0, 0))) ++ junk)).length; rw [List.length_append, List.length_append, slC_length, List.length_set, swG_len]; omega) h2 ?_
          refine wl_nil ?_
          refine ne_wt ?_
          refine wt_doneF rfl (by kernel_rfl) ?_
          exact ne_late () ⟨rfl, rfl, rfl, trivial⟩ [0, 1] (by decide) rfl
        · refine wl_storeTo 1 _ Tryz.hT rfl rfl rfl rfl rfl rfl rfl rfl rfl rfl (by show pre.length + k * 1 + 1 ≤ (pre ++ (slC (swG (none, 0, 0) l k) ++ junk)).length; rw [List.length_append, List.length_append, slC_length, swG_len]; omega) h1 ?_
          refine wl_nil ?_
          refine ne_wt ?_
          refine wt_stepF rfl rfl (by kernel_rfl) ?_
          refine RS.cons ?_ (RS.nil)
          refine wl_pure Tryz.hT rfl rfl rfl ?_
          refine wl_nil ?_
          refine ne_wt ?_
          refine wt_stepF rfl rfl (by kernel_rfl) ?_
          refine RS.cons ?_ (RS.nil)
          refine wl_indexAddr Tryz.hT rfl rfl rfl rfl rfl rfl rfl (by omega) (by omega) ?_
          refine wl_nil ?_
          refine ne_wt ?_
          refine wt_stepF rfl rfl (by kernel_rfl) ?_
          refine RS.cons ?_ (RS.nil)
          refine wl_storeTo 1 _ Tryz.hT rfl rfl rfl rfl rfl rfl rfl rfl rfl rfl (by show pre.length + (l.length - 1 - k) * 1 + 1 ≤ (pre ++ (slC ((swG (none, 0, 0) l k).set k (l.getD (l.length - 1 - k) (none, 0, 0))) ++ junk)).length; rw [List.length_append, List.length_append, slC_length, List.length_set, swG_len]; omega) h2 ?_
          refine wl_nil ?_
          refine ne_wt ?_
          refine wt_doneF rfl (by kernel_rfl) ?_
          exact ne_late () ⟨rfl, rfl, rfl, trivial⟩ [0, 1] (by decide) rfl
      · refine wl_storeTo 1 _ Tryz.hT rfl rfl rfl rfl rfl rfl rfl rfl rfl rfl (by show pre.length + k * 1 + 1 ≤ (pre ++ (slC (swG (none, 0, 0) l k) ++ junk)).length; rw [List.length_append, List.length_append, slC_length, swG_len]; omega) h1 ?_
        refine wl_nil ?_
        refine ne_wt ?_
        refine wt_stepF rfl rfl (by kernel_rfl) ?_
        refine RS.cons ?_ (RS.cons ?_ (RS.nil))
        · refine wl_pure Tryz.hT rfl rfl rfl ?_
          refine wl_nil ?_
          refine ne_wt ?_
          refine wt_stepF rfl rfl (by kernel_rfl) ?_
          refine RS.cons ?_ (RS.nil)
          refine wl_pure Tryz.hT rfl rfl rfl ?_
          refine wl_nil ?_
          refine ne_wt ?_
          refine wt_stepF rfl rfl (by kernel_rfl) ?_
          refine RS.cons ?_ (RS.nil)
          refine wl_indexAddr Tryz.hT rfl rfl rfl rfl rfl rfl rfl (by omega) (by omega) ?_
          refine wl_nil ?_
          refine ne_wt ?_
          refine wt_stepF rfl rfl (by kernel_rfl) ?_
          refine RS.cons ?_ (RS.nil)
          refine wl_storeTo 1 _ Tryz.hT rfl rfl rfl rfl rfl rfl rfl rfl rfl rfl (by show pre.length + (l.length - 1 - k) * 1 + 1 ≤ (pre ++ (slC ((swG (none, 0, 0) l k).set k (l.getD (l.length - 1 - k) (none, 0, 0))) ++ junk)).length; rw [List.length_append, List.length_append, slC_length, List.length_set, swG_len]; omega) h2 ?_
          refine wl_nil ?_
          refine ne_wt ?_
          refine wt_doneF rfl (by kernel_rfl) ?_
          exact ne_late () ⟨rfl, rfl, rfl, trivial⟩ [0, 1] (by decide) rfl
        · refine wl_pure Tryz.hT rfl rfl rfl ?_
          refine wl_nil ?_
          refine ne_wt ?_
          refine wt_stepF rfl rfl (by kernel_rfl) ?_
          refine RS.cons ?_ (RS.nil)
          refine wl_pure Tryz.hT rfl rfl rfl ?_
          refine wl_nil ?_
          refine ne_wt ?_
          refine wt_stepF rfl rfl (by kernel_rfl) ?_
          refine RS.cons ?_ (RS.nil)
          refine wl_indexAddr Tryz.hT rfl rfl rfl rfl rfl rfl rfl (by omega) (by omega) ?_
          refine wl_nil ?_
          refine ne_wt ?_
          refine wt_stepF rfl rfl (by kernel_rfl) ?_
          refine RS.cons ?_ (RS.nil)
          refine wl_storeTo 1 _ Tryz.hT rfl rfl rfl rfl rfl rfl rfl rfl rfl rfl (by show pre.length + (l.length - 1 - k) * 1 + 1 ≤ (pre ++ (slC ((swG (none, 0, 0) l k).set k (l.getD (l.length - 1 - k) (none, 0, 0))) ++ junk)).length; rw [List.length_append, List.length_append, slC_length, List.length_set, swG_len]; omega) h2 ?_
          refine wl_nil ?_
          refine ne_wt ?_
          refine wt_doneF rfl (by kernel_rfl) ?_
          exact ne_late () ⟨rfl, rfl, rfl, trivial⟩ [0, 1] (by decide) rfl
    intro _
    refine zN ?_
    refine zE ?_
    refine zB ?_
    refine wl_pure Tryz.hT rfl rfl rfl ?_
    refine wl_pure Tryz.hT rfl rfl rfl ?_
    refine wl_pure Tryz.hT rfl rfl rfl ?_
    refine wl_pure Tryz.hT rfl rfl rfl ?_
    refine wl_upd 13 (.int .i64 ((l.length : Nat) - 1 - ((k + 1 : Nat) : Int))) rfl (congrArg (Value.int .i64) (show w64 (((l.length - 1 - k : Nat) : Int) - 1) = _ by rw [w64_id (by omega) (by omega)]; omega)) ?_
    refine wl_pure Tryz.hT rfl rfl rfl ?_
    refine wl_pure Tryz.hT rfl rfl rfl ?_
    refine wl_nil ?_
    exact ne_loop (k + 1) (by show 2 * (k + 1) ≤ l.length; omega) (by omega) ⟨rfl, congrArg (fun z => some (Value.int .i64 z)) (wrap_id (x := (k : Int) + 1) (by omega) (by omega)), rfl, trivial⟩ [] rfl
  refine key.mono ?_
  rintro e W' ⟨x, he, _, hb, hn'⟩
  exact ⟨x, he, trivial, near_of hg rfl hb hn'⟩
section
variable {r : Option Nat} {n : Nat} {W0 : World} {N : Nat} {D : List Deferred} {ops : List Oper} {Q : Exit → Act → World → Prop} {o : Oper} {rest : List Oper} {env : Env} {bxs : List Bx}
theorem wl_revring (k : Nat) (pre : List Value) (l : List Trip) (junk : List Value) (ys : List Value) {c : Call} {f : Operand} {d g cap off m : Nat} {xs : List Value}
    (hg : guardE ops N env o = some true) (hd : o.dst = some d) (ho : o.op = .call c) (hc : c.callee = .value f) (hf : evO N env f = some (.func (.func 40) #[] #[])) (ha : evArgs (evO N env) c.args.toList = some [.slice (some ⟨g, off, none⟩) m cap])
    (hk : nth bxs k = some ⟨g, 27, xs, true, none⟩) (hm : m = l.length) (hoff : off = pre.length) (hxs : xs = pre ++ (slC l ++ junk)) (hys : pre ++ (slC l.reverse ++ junk) = ys) (hn : l.length < 4611686018427387904)
    (h : WL r n Tryz.prog N D ops Q rest ((d, .tuple #[]) :: env) (Hp W0 (bxs.set k ⟨g, 27, ys, true, none⟩))) : WL r n Tryz.prog N D ops Q (o :: rest) env (Hp W0 bxs) := by
  subst hm; subst hxs; subst hys
  refine wl_callN (X := Unit) (val := fun _ => .tuple #[]) (Φ := fun _ => True) (capt := []) k (B := ⟨g, 27, pre ++ (slC l ++ junk), true, none⟩) (L1 := []) (L2 := []) (b := g) (ob := .cells (pre ++ (slC l ++ junk)).toArray 27 (0, 0)) (fun _ => ⟨g, 27, pre ++ (slC l.reverse ++ junk), true, none⟩) (g' := fun _ => g) (o' := fun _ => .cells (pre ++ (slC l.reverse ++ junk)).toArray 27 (0, 0))
    hg hd ho hc hf ha (by kernel_rfl) hk rfl (fun _ _ => rfl) (fun W hp => ?_) (fun _ _ => h)
  have hk' : bxs[k]? = some ⟨g, 27, pre ++ (slC l ++ junk), true, none⟩ := by rw [← nth_eq]; exact hk
  exact revring_gives W g cap off pre junk l hoff hn (hp.own.cell k _ hk' (g, .cells (pre ++ (slC l ++ junk)).toArray 27 (0, 0)) (List.mem_cons_self ..)).1
end
end Go.Proofs.YtnpfkmbcejgnjaaGreatDoor
