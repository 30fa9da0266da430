/-
  slices.Reverse of a part of a row; rotated. (Printed by tools/revgen.py.)
-/
import Derived.Test.YtnpfkmbcejgnjaaGreatDoorCanLaw
import Derived.Test.YtnpfkmbcejgnjaaGreatDoorMoved
import Derived.Test.YtnpfkmbcejgnjaaGreatDoorAp
import Derived.Test.YtnpfkmbcejgnjaaGreatDoorSortAt
namespace Go.Proofs.YtnpfkmbcejgnjaaGreatDoor
open Go Go.RowKit Go.Am
set_option maxRecDepth 10000
-- BOXES 2
theorem cells_splitR {L : List Sd} {j : Nat} (hj : j < L.length) : cellsOf L = cellsOf (L.take j) ++ ((sd L j).cells ++ cellsOf (L.drop (j + 1))) := by
  have e : L = L.take j ++ (sd L j :: L.drop (j + 1)) := by
    have h := List.take_append_drop j L
    rw [List.drop_eq_getElem_cons hj] at h
    rw [show sd L j = L[j] by simp [sd, hj]]
    exact h.symm
  conv => lhs; rw [e]
  rw [cellsOf_append]
  rfl
/-- A whole side stored into a row. -/
theorem set_sideR (s : Sd) {junk : List Value} {L : List Sd} {j : Nat} (hj : j < L.length) : splice (cellsOf L ++ junk) (j * 7) s.val.cells.toList = cellsOf (L.set j s) ++ junk := by
  have hl : (cellsOf (L.take j)).length = j * 7 := by rw [cellsOf_length, List.length_take, Nat.min_eq_left (by omega)]
  have e2 : cellsOf (L.set j s) = cellsOf (L.take j) ++ (s.cells ++ cellsOf (L.drop (j + 1))) := by
    rw [cells_splitR (L := L.set j s) (j := j) (by rw [List.length_set]; exact hj), List.take_set_of_le (Nat.le_refl _), List.drop_set_of_lt (by omega), show sd (L.set j s) j = s by simp [sd, hj]]
  rw [cells_splitR hj, e2]
  simp only [List.append_assoc]
  rw [show j * 7 = (cellsOf (L.take j)).length + 0 by omega, splice_right]
  rfl
/-- The list, its first k and its last k exchanged. -/
def swG {α : Type} (d : α) (l : List α) (k : Nat) : List α := (List.range l.length).map fun m => if m < k ∨ l.length - 1 - m < k then l.getD (l.length - 1 - m) d else l.getD m d
section
variable {α : Type} (d : α)
theorem swG_len (l : List α) (k : Nat) : (swG d l k).length = l.length := by simp [swG]
theorem swG_at {l : List α} {k m : Nat} (hm : m < l.length) : (swG d l k).getD m d = if m < k ∨ l.length - 1 - m < k then l.getD (l.length - 1 - m) d else l.getD m d := by
  rw [List.getD_eq_getElem?_getD, swG, List.getElem?_map, List.getElem?_range hm]; rfl
theorem list_ext_D {l m : List α} (h : l.length = m.length) (hs : ∀ i, i < l.length → l.getD i d = m.getD i d) : l = m := by
  refine List.ext_getElem h fun i h1 h2 => ?_
  have := hs i h1
  rw [List.getD_eq_getElem?_getD, List.getD_eq_getElem?_getD, List.getElem?_eq_getElem h1, List.getElem?_eq_getElem h2] at this
  exact this
theorem swG_zero (l : List α) : swG d l 0 = l := list_ext_D d (swG_len d l 0) fun i hi => by
  rw [swG_len] at hi
  rw [swG_at d hi, if_neg (by omega)]
theorem setD {l : List α} {i : Nat} (hi : i < l.length) (s : α) (k : Nat) : (l.set i s).getD k d = if k = i then s else l.getD k d := by
  rw [List.getD_eq_getElem?_getD, List.getD_eq_getElem?_getD]
  by_cases e : k = i
  · subst e; rw [if_pos rfl, List.getElem?_set_self hi]; rfl
  · rw [if_neg e, List.getElem?_set_ne (fun h => e h.symm)]
theorem swG_succ {l : List α} {k : Nat} (hk : k < l.length - 1 - k) : swG d l (k + 1) = ((swG d l k).set k (l.getD (l.length - 1 - k) d)).set (l.length - 1 - k) (l.getD k d) := list_ext_D d (by rw [swG_len, List.length_set, List.length_set, swG_len]) fun i hi => by
  rw [swG_len] at hi
  rw [swG_at d hi, setD d (by rw [List.length_set, swG_len]; omega), setD d (by rw [swG_len]; omega), swG_at d hi]
  by_cases e1 : i = l.length - 1 - k
  · rw [if_pos e1, if_pos (by omega), e1, show l.length - 1 - (l.length - 1 - k) = k by omega]
  by_cases e2 : i = k
  · rw [if_neg e1, if_pos e2, if_pos (by omega), e2]
  · rw [if_neg e1, if_neg e2]
    by_cases e3 : i < k ∨ l.length - 1 - i < k
    · rw [if_pos (by omega), if_pos e3]
    · rw [if_neg (by omega), if_neg e3]
theorem swG_done {l : List α} {k : Nat} (hk : ¬ k < l.length - 1 - k) : swG d l k = l.reverse := list_ext_D d (by rw [swG_len, List.length_reverse]) fun i hi => by
  rw [swG_len] at hi
  rw [swG_at d hi]
  have hr : l.reverse.getD i d = l.getD (l.length - 1 - i) d := by
    rw [List.getD_eq_getElem?_getD, List.getD_eq_getElem?_getD, List.getElem?_reverse hi]
  rw [hr]
  by_cases e : i < k ∨ l.length - 1 - i < k
  · rw [if_pos e]
  · rw [if_neg e]; congr 1; omega
end
theorem ci_append (l m : List Int) : ci (l ++ m) = ci l ++ ci m := List.map_append
theorem ci_length (l : List Int) : (ci l).length = l.length * 1 := by rw [List.length_map, Nat.mul_one]
theorem ci_one : ∀ l : List Int, ∀ u ∈ ci l, u.oneCell' = true := fun l u hu => by
  obtain ⟨z, _, rfl⟩ := List.mem_map.1 hu
  rfl
theorem splice_at1 : ∀ (c : List Value) (j : Nat) (v : Value), j < c.length → splice c j [v] = c.set j v
  | [], j, _, h => absurd h (Nat.not_lt_zero _)
  | x :: c, 0, v, _ => by simp [splice]
  | x :: c, j + 1, v, h => by
    have ih := splice_at1 c j v (by simpa using h)
    have e := splice_right [x] c j [v]
    rw [List.length_singleton, Nat.add_comm 1 j] at e
    rw [show x :: c = [x] ++ c from rfl, e, ih]; rfl
theorem set_num (z : Int) {junk : List Value} {L : List Int} {j : Nat} (hj : j < L.length) : splice (ci L ++ junk) (j * 1) (Value.int .i64 z).cells.toList = ci (L.set j z) ++ junk := by
  rw [Nat.mul_one]
  show splice _ j [Value.int .i64 z] = _
  rw [splice_at1 _ _ _ (by rw [List.length_append, List.length_map]; omega), List.set_append_left _ _ (by simpa using hj)]
  congr 1
  exact (List.map_set ..).symm
theorem row_sideO {W0 W : World} {bxs : List Bx} (hp : Hp W0 bxs W) (k : Nat) {g : Nat} {pre : List Value} {L : List Sd} {junk : List Value} (hk : nth bxs k = some ⟨g, 42, pre ++ (cellsOf L ++ junk), true, none⟩) {j : Nat} (hj : j < L.length) : RowAt W g (pre.length + j * 7) (L.getD j default).cells := by
  have h := RowAt.of_bx hp k hk rfl
  refine ⟨h.lt, fun m u hu => ?_⟩
  have hm : m < 7 := (List.getElem?_eq_some_iff.1 hu).1
  have h1 := cellsOf_get L j (sd L j) (sd_get hj) m hm
  rw [show (sd L j).cells[m]? = some u from hu] at h1
  have := h.get (pre.length + (j * 7 + m)) u (by
    show (pre ++ (cellsOf L ++ junk))[pre.length + (j * 7 + m)]? = some u
    rw [List.getElem?_append_right (by omega), Nat.add_sub_cancel_left, List.getElem?_append_left (List.getElem?_eq_some_iff.1 h1).1]
    exact h1)
  rw [Nat.zero_add, ← Nat.add_assoc] at this
  exact this
theorem row_numO {W0 W : World} {bxs : List Bx} (hp : Hp W0 bxs W) (k : Nat) {g : Nat} {pre : List Value} {L : List Int} {junk : List Value} (hk : nth bxs k = some ⟨g, 3, pre ++ (ci L ++ junk), true, none⟩) {j : Nat} (hj : j < L.length) : RowAt W g (pre.length + j * 1) [.int .i64 (L.getD j 0)] := by
  have h := RowAt.of_bx hp k hk rfl
  refine ⟨h.lt, fun m u hu => ?_⟩
  have hm : m = 0 := by have := (List.getElem?_eq_some_iff.1 hu).1; simp at this; omega
  subst hm
  have h1 : (ci L)[j]? = some u := by
    rw [List.getElem?_map, List.getElem?_eq_getElem hj, ← hu, List.getD_eq_getElem?_getD, List.getElem?_eq_getElem hj]; rfl
  have := h.get (pre.length + (j * 1 + 0)) u (by
    show (pre ++ (ci L ++ junk))[pre.length + (j * 1 + 0)]? = some u
    rw [List.getElem?_append_right (by omega), Nat.add_sub_cancel_left, Nat.mul_one, Nat.add_zero, List.getElem?_append_left (by simpa using hj)]
    exact h1)
  rw [Nat.zero_add, ← Nat.add_assoc] at this
  exact this
set_option maxHeartbeats 4000000 in
theorem revside_gives (W : World) (g cap off : Nat) (pre junk : List Value) (l : List Sd) (hoff : off = pre.length) (hn : l.length < 4611686018427387904) (hg : W.heap[g]? = some (.cells (pre ++ (cellsOf l ++ junk)).toArray 42 (0, 0))) :
    Calls Tryz.prog 31 #[.slice (some ⟨g, off, none⟩) l.length cap] W fun e W' => ∃ x : Unit, e = .returned ((fun _ => .tuple #[]) x) ∧ True ∧ Near W W' g ((fun _ => g) x) ((fun _ => .cells (pre ++ (cellsOf l.reverse ++ junk)).toArray 42 (0, 0)) x) := by
  subst hoff
  have key : Calls Tryz.prog 31 [.slice (some ⟨g, pre.length, none⟩) l.length cap].toArray W fun e W' => ∃ x : Unit, e = .returned ((fun _ => .tuple #[]) x) ∧ (fun _ => True) x ∧ Below (noHeap W).heap.size (noHeap W) W' ∧ NewBx (noHeap W) W' ((fun _ => [grpB (othersL W g), ⟨g, 42, pre ++ (cellsOf l.reverse ++ junk), true, none⟩]) x) := by
    refine calls_enterT (X := Unit) (val := fun _ => .tuple #[]) (Φ := fun _ => True) (nb := fun _ => [grpB (othersL W g), ⟨g, 42, pre ++ (cellsOf l.reverse ++ junk), true, none⟩]) (Hp.enterT (B := ⟨g, 42, pre ++ (cellsOf l ++ junk), true, none⟩) rfl hg) Tryz.func31 rfl rfl rfl ?_
    refine zA ?_
    refine zB ?_
    refine wl_pure Tryz.hT rfl rfl rfl ?_
    refine wl_pure Tryz.hT rfl rfl rfl ?_
    refine wl_pure Tryz.hT rfl rfl rfl ?_
    refine wl_upd 6 (.int .i64 ((l.length : Nat) - 1 - (0 : Nat))) rfl (congrArg (Value.int .i64) (show w64 ((l.length : Nat) - 1) = _ by rw [w64_id (by omega) (by omega)]; omega)) ?_
    refine wl_pure Tryz.hT rfl rfl rfl ?_
    refine wl_pure Tryz.hT rfl rfl rfl ?_
    refine wl_nil ?_
    refine zE ?_
    refine zH ?_
    refine wc_loop (X := Nat) (fun k => [(0, .slice (some ⟨g, pre.length, none⟩) l.length cap), (2, .int .i64 (k : Nat)), (3, .int .i64 ((l.length : Nat) - 1 - (k : Nat)))]) (fun k => [grpB (othersL W g), ⟨g, 42, pre ++ (cellsOf (swG default l k) ++ junk), true, none⟩])
      (fun k => 2 * k ≤ l.length) (fun k => l.length - k) 0 (Nat.zero_le _) ⟨rfl, rfl, rfl, trivial⟩ [] (by show _ = _ ++ []; rw [swG_zero]; rfl) ?_
    intro k hk
    refine zA ?_
    refine zA ?_
    refine zB ?_
    refine wl_pure Tryz.hT rfl rfl rfl ?_
    refine wl_pure Tryz.hT rfl rfl rfl ?_
    refine wl_pure Tryz.hT rfl rfl rfl ?_
    refine wl_nil ?_
    refine zE ?_
    refine wc_cond rfl (fun h => ?_) (fun h => ?_)
    rotate_left
    · have hd : ¬ k < l.length - 1 - k := by
        have h' : decide ((k : Int) < (l.length : Nat) - 1 - (k : Nat)) = false := h
        rw [decide_eq_false_iff_not] at h'; omega
      rw [swG_done default hd]
      refine zJ ?_
      refine zK ?_
      refine zK ?_
      refine zL ?_
      refine ne_end0 (X := Unit) (val := fun _ => .tuple #[]) (Φ := fun _ => True) (nb := fun _ => [grpB (othersL W g), ⟨g, 42, pre ++ (cellsOf l.reverse ++ junk), true, none⟩]) (fn := Tryz.f31) Tryz.hT rfl () rfl trivial fun W1 hp => ?_
      exact (hp.pick (l := [grpB (othersL W g), ⟨g, 42, pre ++ (cellsOf l.reverse ++ junk), true, none⟩]) [0, 1] (by decide) rfl).own
    have hd : k < l.length - 1 - k := by
      have h' : decide ((k : Int) < (l.length : Nat) - 1 - (k : Nat)) = true := h
      rw [decide_eq_true_iff] at h'; omega
    clear h
    have e3 : ((l.length : Nat) : Int) - 1 - (k : Nat) = ((l.length - 1 - k : Nat) : Int) := by omega
    have s1 : (swG default l k).getD (l.length - 1 - k) default = l.getD (l.length - 1 - k) default := by rw [swG_at default (by omega), if_neg (by omega)]
    have s2 : (swG default l k).getD k default = l.getD k default := by rw [swG_at default (by omega), if_neg (by omega)]
    refine zI ?_
    refine zE ?_
    refine wc_upd 3 (.int .i64 ((l.length - 1 - k : Nat) : Int)) rfl (congrArg (Value.int .i64) e3) ?_
    refine wc_seq ?_
    refine wc_block ?_
    repeat refine wc_seq ?_
    refine wc_lateY (X := Unit) [true, true, false, false, true, true, true, true, true, true, true, true, true, false, false, false] (fun _ => [(0, .slice (some ⟨g, pre.length, none⟩) l.length cap), (2, .int .i64 (k : Nat)), (3, .int .i64 ((l.length - 1 - k : Nat) : Int))]) (fun _ => [grpB (othersL W g), ⟨g, 42, pre ++ (cellsOf (swG default l (k + 1)) ++ junk), true, none⟩])
      5 [grpB (othersL W g), ⟨g, 42, pre ++ (cellsOf (swG default l k) ++ junk), true, none⟩] Tryz.mixed (by kernel_rfl) ?_ ?_
    · refine wq_pure Tryz.hT rfl rfl rfl ?_
      refine wq_pure Tryz.hT rfl rfl rfl ?_
      refine wq_pure Tryz.hT rfl rfl rfl ?_
      refine wq_pure Tryz.hT rfl rfl rfl ?_
      refine wq_indexAddr Tryz.hT rfl rfl rfl rfl rfl rfl rfl (by omega) (by omega) ?_
      refine wq_load rfl rfl rfl rfl (fun W hp => RowAt.load 0 Tryz.hT rfl ((fun W1 hp => show RowAt W1 g (pre.length + (l.length - 1 - k) * 7) (l.getD (l.length - 1 - k) default).cells from by rw [← s1]; exact row_sideO hp 1 rfl (by rw [swG_len]; omega)) W hp) rfl) ?_
      refine wq_pure Tryz.hT rfl rfl rfl ?_
      refine wq_pure Tryz.hT rfl rfl rfl ?_
      refine wq_indexAddr Tryz.hT rfl rfl rfl rfl rfl rfl rfl (by omega) (by omega) ?_
      refine wq_load rfl rfl rfl rfl (fun W hp => RowAt.load 0 Tryz.hT rfl ((fun W1 hp => show RowAt W1 g (pre.length + k * 7) (l.getD (k) default).cells from by rw [← s2]; exact row_sideO hp 1 rfl (by rw [swG_len]; omega)) W hp) rfl) ?_
      refine wq_indexAddr Tryz.hT rfl rfl rfl rfl rfl rfl rfl (by omega) (by omega) ?_
      refine wq_wt ?_
      have h1 : splice (pre ++ (cellsOf (swG default l k) ++ junk)) (pre.length + k * 7) (l.getD (l.length - 1 - k) default).val.cells.toList = pre ++ (cellsOf ((swG default l k).set k (l.getD (l.length - 1 - k) default)) ++ junk) := by
        rw [splice_right]; congr 1; exact set_sideR _ (by rw [swG_len]; omega)
      have h2 : splice (pre ++ (cellsOf ((swG default l k).set k (l.getD (l.length - 1 - k) default)) ++ junk)) (pre.length + (l.length - 1 - k) * 7) (l.getD (k) default).val.cells.toList = pre ++ (cellsOf (swG default l (k + 1)) ++ junk) := by
        rw [splice_right, swG_succ default hd]; congr 1; exact set_sideR _ (by rw [List.length_set, swG_len]; omega)
      refine wt_step rfl rfl (by ((repeat (first | refine Weak.same ?_ | refine Weak.off rfl ?_)); exact trivial)) ?_
      refine RS.cons ?_ (RS.cons ?_ (RS.cons ?_ (RS.nil)))
      · refine wl_pure Tryz.hT rfl rfl rfl ?_
        refine wl_nil ?_
        refine ne_wt ?_
        refine wt_step rfl rfl (by ((repeat (first | refine Weak.same ?_ | refine Weak.off rfl ?_)); exact trivial)) ?_
        refine RS.cons ?_ (RS.cons ?_ (RS.nil))
        · refine wl_pure Tryz.hT rfl rfl rfl ?_
          refine wl_nil ?_
          refine ne_wt ?_
          refine wt_step rfl rfl (by ((repeat (first | refine Weak.same ?_ | refine Weak.off rfl ?_)); exact trivial)) ?_
          refine RS.cons ?_ (RS.nil)
          refine wl_storeTo 1 _ Tryz.hT rfl rfl rfl rfl rfl rfl rfl rfl rfl rfl (by show pre.length + k * 7 + 7 ≤ (pre ++ (cellsOf (swG default l k) ++ junk)).length; rw [List.length_append, List.length_append, cellsOf_length, swG_len]; omega) h1 ?_
          refine wl_nil ?_
          refine ne_wt ?_
          refine wt_stepF rfl rfl (by kernel_rfl) ?_
          refine RS.cons ?_ (RS.nil)
          refine wl_indexAddr Tryz.hT rfl rfl rfl rfl rfl rfl rfl (by omega) (by omega) ?_
          refine wl_nil ?_
          refine ne_wt ?_
          refine wt_stepF rfl rfl (by kernel_rfl) ?_
          refine RS.cons ?_ (RS.nil)
          refine wl_storeTo 1 _ Tryz.hT rfl rfl rfl rfl rfl rfl rfl rfl rfl rfl (by show pre.length + (l.length - 1 - k) * 7 + 7 ≤ (pre ++ (cellsOf ((swG default l k).set k (l.getD (l.length - 1 - k) default)) ++ junk)).length; rw [List.length_append, List.length_append, cellsOf_length, List.length_set, swG_len]; omega) h2 ?_
          refine wl_nil ?_
          refine ne_wt ?_
          refine wt_doneF rfl (by kernel_rfl) ?_
          exact ne_late () ⟨rfl, rfl, rfl, trivial⟩ [0, 1] (by decide) rfl
        · refine wl_storeTo 1 _ Tryz.hT rfl rfl rfl rfl rfl rfl rfl rfl rfl rfl (by show pre.length + k * 7 + 7 ≤ (pre ++ (cellsOf (swG default l k) ++ junk)).length; rw [List.length_append, List.length_append, cellsOf_length, swG_len]; omega) h1 ?_
          refine wl_nil ?_
          refine ne_wt ?_
          refine wt_stepF rfl rfl (by kernel_rfl) ?_
          refine RS.cons ?_ (RS.nil)
          refine wl_pure Tryz.hT rfl rfl rfl ?_
          refine wl_nil ?_
          refine ne_wt ?_
          refine wt_stepF rfl rfl (by kernel_rfl) ?_
          refine RS.cons ?_ (RS.nil)
          refine wl_indexAddr Tryz.hT rfl rfl rfl rfl rfl rfl rfl (by omega) (by omega) ?_
          refine wl_nil ?_
          refine ne_wt ?_
          refine wt_stepF rfl rfl (by kernel_rfl) ?_
          refine RS.cons ?_ (RS.nil)
          refine wl_storeTo 1 _ Tryz.hT rfl rfl rfl rfl rfl rfl rfl rfl rfl rfl (by show pre.length + (l.length - 1 - k) * 7 + 7 ≤ (pre ++ (cellsOf ((swG default l k).set k (l.getD (l.length - 1 - k) default)) ++ junk)).length; rw [List.length_append, List.length_append, cellsOf_length, List.length_set, swG_len]; omega) h2 ?_
          refine wl_nil ?_
          refine ne_wt ?_
          refine wt_doneF rfl (by kernel_rfl) ?_
          exact ne_late () ⟨rfl, rfl, rfl, trivial⟩ [0, 1] (by decide) rfl
      · refine wl_pure Tryz.hT rfl rfl rfl ?_
        refine wl_nil ?_
        refine ne_wt ?_
        refine wt_step rfl rfl (by ((repeat (first | refine Weak.same ?_ | refine Weak.off rfl ?_)); exact trivial)) ?_
        refine RS.cons ?_ (RS.cons ?_ (RS.nil))
        · refine wl_pure Tryz.hT rfl rfl rfl ?_
          refine wl_nil ?_
          refine ne_wt ?_
          refine wt_step rfl rfl (by ((repeat (first | refine Weak.same ?_ | refine Weak.off rfl ?_)); exact trivial)) ?_
          refine RS.cons ?_ (RS.nil)
          refine wl_storeTo 1 _ Tryz.hT rfl rfl rfl rfl rfl rfl rfl rfl rfl rfl (by show pre.length + k * 7 + 7 ≤ (pre ++ (cellsOf (swG default l k) ++ junk)).length; rw [List.length_append, List.length_append, cellsOf_length, swG_len]; omega) h1 ?_
          refine wl_nil ?_
          refine ne_wt ?_
          refine wt_stepF rfl rfl (by kernel_rfl) ?_
          refine RS.cons ?_ (RS.nil)
          refine wl_indexAddr Tryz.hT rfl rfl rfl rfl rfl rfl rfl (by omega) (by omega) ?_
          refine wl_nil ?_
          refine ne_wt ?_
          refine wt_stepF rfl rfl (by kernel_rfl) ?_
          refine RS.cons ?_ (RS.nil)
          refine wl_storeTo 1 _ Tryz.hT rfl rfl rfl rfl rfl rfl rfl rfl rfl rfl (by show pre.length + (l.length - 1 - k) * 7 + 7 ≤ (pre ++ (cellsOf ((swG default l k).set k (l.getD (l.length - 1 - k) default)) ++ junk)).length; rw [List.length_append, List.length_append, cellsOf_length, List.length_set, swG_len]; omega) h2 ?_
          refine wl_nil ?_
          refine ne_wt ?_
          refine wt_doneF rfl (by kernel_rfl) ?_
          exact ne_late () ⟨rfl, rfl, rfl, trivial⟩ [0, 1] (by decide) rfl
        · refine wl_storeTo 1 _ Tryz.hT rfl rfl rfl rfl rfl rfl rfl rfl rfl rfl (by show pre.length + k * 7 + 7 ≤ (pre ++ (cellsOf (swG default l k) ++ junk)).length; rw [List.length_append, List.length_append, cellsOf_length, swG_len]; omega) h1 ?_
          refine wl_nil ?_
          refine ne_wt ?_
          refine wt_stepF rfl rfl (by kernel_rfl) ?_
          refine RS.cons ?_ (RS.nil)
          refine wl_pure Tryz.hT rfl rfl rfl ?_
          refine wl_nil ?_
          refine ne_wt ?_
          refine wt_stepF rfl rfl (by kernel_rfl) ?_
          refine RS.cons ?_ (RS.nil)
          refine wl_indexAddr Tryz.hT rfl rfl rfl rfl rfl rfl rfl (by omega) (by omega) ?_
          refine wl_nil ?_
          refine ne_wt ?_
          refine wt_stepF rfl rfl (by kernel_rfl) ?_
          refine RS.cons ?_ (RS.nil)
          refine wl_storeTo 1 _ Tryz.hT rfl rfl rfl rfl rfl rfl rfl rfl rfl rfl (by show pre.length + (l.length - 1 - k) * 7 + 7 ≤ (pre ++ (cellsOf ((swG default l k).set k (l.getD (l.length - 1 - k) default)) ++ junk)).length; rw [List.length_append, List.length_append, cellsOf_length, List.length_set, swG_len]; omega) h2 ?_
          refine wl_nil ?_
          refine ne_wt ?_
          refine wt_doneF rfl (by kernel_rfl) ?_
          exact ne_late () ⟨rfl, rfl, rfl, trivial⟩ [0, 1] (by decide) rfl
      · refine wl_storeTo 1 _ Tryz.hT rfl rfl rfl rfl rfl rfl rfl rfl rfl rfl (by show pre.length + k * 7 + 7 ≤ (pre ++ (cellsOf (swG default l k) ++ junk)).length; rw [List.length_append, List.length_append, cellsOf_length, swG_len]; omega) h1 ?_
        refine wl_nil ?_
        refine ne_wt ?_
        refine wt_stepF rfl rfl (by kernel_rfl) ?_
        refine RS.cons ?_ (RS.cons ?_ (RS.nil))
        · refine wl_pure Tryz.hT rfl rfl rfl ?_
          refine wl_nil ?_
          refine ne_wt ?_
          refine wt_stepF rfl rfl (by kernel_rfl) ?_
          refine RS.cons ?_ (RS.nil)
          refine wl_pure Tryz.hT rfl rfl rfl ?_
          refine wl_nil ?_
          refine ne_wt ?_
          refine wt_stepF rfl rfl (by kernel_rfl) ?_
          refine RS.cons ?_ (RS.nil)
          refine wl_indexAddr Tryz.hT rfl rfl rfl rfl rfl rfl rfl (by omega) (by omega) ?_
          refine wl_nil ?_
          refine ne_wt ?_
          refine wt_stepF rfl rfl (by kernel_rfl) ?_
          refine RS.cons ?_ (RS.nil)
          refine wl_storeTo 1 _ Tryz.hT rfl rfl rfl rfl rfl rfl rfl rfl rfl rfl (by show pre.length + (l.length - 1 - k) * 7 + 7 ≤ (pre ++ (cellsOf ((swG default l k).set k (l.getD (l.length - 1 - k) default)) ++ junk)).length; rw [List.length_append, List.length_append, cellsOf_length, List.length_set, swG_len]; omega) h2 ?_
          refine wl_nil ?_
          refine ne_wt ?_
          refine wt_doneF rfl (by kernel_rfl) ?_
          exact ne_late () ⟨rfl, rfl, rfl, trivial⟩ [0, 1] (by decide) rfl
        · refine wl_pure Tryz.hT rfl rfl rfl ?_
          refine wl_nil ?_
          refine ne_wt ?_
          refine wt_stepF rfl rfl (by kernel_rfl) ?_
          refine RS.cons ?_ (RS.nil)
          refine wl_pure Tryz.hT rfl rfl rfl ?_
          refine wl_nil ?_
          refine ne_wt ?_
          refine wt_stepF rfl rfl (by kernel_rfl) ?_
          refine RS.cons ?_ (RS.nil)
          refine wl_indexAddr Tryz.hT rfl rfl rfl rfl rfl rfl rfl (by omega) (by omega) ?_
          refine wl_nil ?_
          refine ne_wt ?_
          refine wt_stepF rfl rfl (by kernel_rfl) ?_
          refine RS.cons ?_ (RS.nil)
          refine wl_storeTo 1 _ Tryz.hT rfl rfl rfl rfl rfl rfl rfl rfl rfl rfl (by show pre.length + (l.length - 1 - k) * 7 + 7 ≤ (pre ++ (cellsOf ((swG default l k).set k (l.getD (l.length - 1 - k) default)) ++ junk)).length; rw [List.length_append, List.length_append, cellsOf_length, List.length_set, swG_len]; omega) h2 ?_
          refine wl_nil ?_
          refine ne_wt ?_
          refine wt_doneF rfl (by kernel_rfl) ?_
          exact ne_late () ⟨rfl, rfl, rfl, trivial⟩ [0, 1] (by decide) rfl
    intro _
    refine zN ?_
    refine zE ?_
    refine zB ?_
    refine wl_pure Tryz.hT rfl rfl rfl ?_
    refine wl_pure Tryz.hT rfl rfl rfl ?_
    refine wl_pure Tryz.hT rfl rfl rfl ?_
    refine wl_pure Tryz.hT rfl rfl rfl ?_
    refine wl_upd 13 (.int .i64 ((l.length : Nat) - 1 - ((k + 1 : Nat) : Int))) rfl (congrArg (Value.int .i64) (show w64 (((l.length - 1 - k : Nat) : Int) - 1) = _ by rw [w64_id (by omega) (by omega)]; omega)) ?_
    refine wl_pure Tryz.hT rfl rfl rfl ?_
    refine wl_pure Tryz.hT rfl rfl rfl ?_
    refine wl_nil ?_
    exact ne_loop (k + 1) (by show 2 * (k + 1) ≤ l.length; omega) (by omega) ⟨rfl, congrArg (fun z => some (Value.int .i64 z)) (wrap_id (x := (k : Int) + 1) (by omega) (by omega)), rfl, trivial⟩ [] rfl
  refine key.mono ?_
  rintro e W' ⟨x, he, _, hb, hn'⟩
  exact ⟨x, he, trivial, near_of hg rfl hb hn'⟩
section
variable {r : Option Nat} {n : Nat} {W0 : World} {N : Nat} {D : List Deferred} {ops : List Oper} {Q : Exit → Act → World → Prop} {o : Oper} {rest : List Oper} {env : Env} {bxs : List Bx}
theorem wl_revside (k : Nat) (pre : List Value) (l : List Sd) (junk : List Value) (ys : List Value) {c : Call} {f : Operand} {d g cap off m : Nat} {xs : List Value}
    (hg : guardE ops N env o = some true) (hd : o.dst = some d) (ho : o.op = .call c) (hc : c.callee = .value f) (hf : evO N env f = some (.func (.func 31) #[] #[])) (ha : evArgs (evO N env) c.args.toList = some [.slice (some ⟨g, off, none⟩) m cap])
    (hk : nth bxs k = some ⟨g, 42, xs, true, none⟩) (hm : m = l.length) (hoff : off = pre.length) (hxs : xs = pre ++ (cellsOf l ++ junk)) (hys : pre ++ (cellsOf l.reverse ++ junk) = ys) (hn : l.length < 4611686018427387904)
    (h : WL r n Tryz.prog N D ops Q rest ((d, .tuple #[]) :: env) (Hp W0 (bxs.set k ⟨g, 42, ys, true, none⟩))) : WL r n Tryz.prog N D ops Q (o :: rest) env (Hp W0 bxs) := by
  subst hm; subst hxs; subst hys
  refine wl_callN (X := Unit) (val := fun _ => .tuple #[]) (Φ := fun _ => True) (capt := []) k (B := ⟨g, 42, pre ++ (cellsOf l ++ junk), true, none⟩) (L1 := []) (L2 := []) (b := g) (ob := .cells (pre ++ (cellsOf l ++ junk)).toArray 42 (0, 0)) (fun _ => ⟨g, 42, pre ++ (cellsOf l.reverse ++ junk), true, none⟩) (g' := fun _ => g) (o' := fun _ => .cells (pre ++ (cellsOf l.reverse ++ junk)).toArray 42 (0, 0))
    hg hd ho hc hf ha (by kernel_rfl) hk rfl (fun _ _ => rfl) (fun W hp => ?_) (fun _ _ => h)
  have hk' : bxs[k]? = some ⟨g, 42, pre ++ (cellsOf l ++ junk), true, none⟩ := by rw [← nth_eq]; exact hk
  exact revside_gives W g cap off pre junk l hoff hn (hp.own.cell k _ hk' (g, .cells (pre ++ (cellsOf l ++ junk)).toArray 42 (0, 0)) (List.mem_cons_self ..)).1
end
set_option maxHeartbeats 4000000 in
theorem revnum_gives (W : World) (g cap off : Nat) (pre junk : List Value) (l : List Int) (hoff : off = pre.length) (hn : l.length < 4611686018427387904) (hg : W.heap[g]? = some (.cells (pre ++ (ci l ++ junk)).toArray 3 (0, 0))) :
    Calls Tryz.prog 147 #[.slice (some ⟨g, off, none⟩) l.length cap] W fun e W' => ∃ x : Unit, e = .returned ((fun _ => .tuple #[]) x) ∧ True ∧ Near W W' g ((fun _ => g) x) ((fun _ => .cells (pre ++ (ci l.reverse ++ junk)).toArray 3 (0, 0)) x) := by
  subst hoff
  have key : Calls Tryz.prog 147 [.slice (some ⟨g, pre.length, none⟩) l.length cap].toArray W fun e W' => ∃ x : Unit, e = .returned ((fun _ => .tuple #[]) x) ∧ (fun _ => True) x ∧ Below (noHeap W).heap.size (noHeap W) W' ∧ NewBx (noHeap W) W' ((fun _ => [grpB (othersL W g), ⟨g, 3, pre ++ (ci l.reverse ++ junk), true, none⟩]) x) := by
    refine calls_enterT (X := Unit) (val := fun _ => .tuple #[]) (Φ := fun _ => True) (nb := fun _ => [grpB (othersL W g), ⟨g, 3, pre ++ (ci l.reverse ++ junk), true, none⟩]) (Hp.enterT (B := ⟨g, 3, pre ++ (ci l ++ junk), true, none⟩) rfl hg) Tryz.func147 rfl rfl rfl ?_
    refine zA ?_
    refine zB ?_
    refine wl_pure Tryz.hT rfl rfl rfl ?_
    refine wl_pure Tryz.hT rfl rfl rfl ?_
    refine wl_pure Tryz.hT rfl rfl rfl ?_
    refine wl_upd 6 (.int .i64 ((l.length : Nat) - 1 - (0 : Nat))) rfl (congrArg (Value.int .i64) (show w64 ((l.length : Nat) - 1) = _ by rw [w64_id (by omega) (by omega)]; omega)) ?_
    refine wl_pure Tryz.hT rfl rfl rfl ?_
    refine wl_pure Tryz.hT rfl rfl rfl ?_
    refine wl_nil ?_
    refine zE ?_
    refine zH ?_
    refine wc_loop (X := Nat) (fun k => [(0, .slice (some ⟨g, pre.length, none⟩) l.length cap), (2, .int .i64 (k : Nat)), (3, .int .i64 ((l.length : Nat) - 1 - (k : Nat)))]) (fun k => [grpB (othersL W g), ⟨g, 3, pre ++ (ci (swG 0 l k) ++ junk), true, none⟩])
      (fun k => 2 * k ≤ l.length) (fun k => l.length - k) 0 (Nat.zero_le _) ⟨rfl, rfl, rfl, trivial⟩ [] (by show _ = _ ++ []; rw [swG_zero]; rfl) ?_
    intro k hk
    refine zA ?_
    refine zA ?_
    refine zB ?_
    refine wl_pure Tryz.hT rfl rfl rfl ?_
    refine wl_pure Tryz.hT rfl rfl rfl ?_
    refine wl_pure Tryz.hT rfl rfl rfl ?_
    refine wl_nil ?_
    refine zE ?_
    refine wc_cond rfl (fun h => ?_) (fun h => ?_)
    rotate_left
    · have hd : ¬ k < l.length - 1 - k := by
        have h' : decide ((k : Int) < (l.length : Nat) - 1 - (k : Nat)) = false := h
        rw [decide_eq_false_iff_not] at h'; omega
      rw [swG_done 0 hd]
      refine zJ ?_
      refine zK ?_
      refine zK ?_
      refine zL ?_
      refine ne_end0 (X := Unit) (val := fun _ => .tuple #[]) (Φ := fun _ => True) (nb := fun _ => [grpB (othersL W g), ⟨g, 3, pre ++ (ci l.reverse ++ junk), true, none⟩]) (fn := Tryz.f147) Tryz.hT rfl () rfl trivial fun W1 hp => ?_
      exact (hp.pick (l := [grpB (othersL W g), ⟨g, 3, pre ++ (ci l.reverse ++ junk), true, none⟩]) [0, 1] (by decide) rfl).own
    have hd : k < l.length - 1 - k := by
      have h' : decide ((k : Int) < (l.length : Nat) - 1 - (k : Nat)) = true := h
      rw [decide_eq_true_iff] at h'; omega
    clear h
    have e3 : ((l.length : Nat) : Int) - 1 - (k : Nat) = ((l.length - 1 - k : Nat) : Int) := by omega
    have s1 : (swG 0 l k).getD (l.length - 1 - k) 0 = l.getD (l.length - 1 - k) 0 := by rw [swG_at 0 (by omega), if_neg (by omega)]
    have s2 : (swG 0 l k).getD k 0 = l.getD k 0 := by rw [swG_at 0 (by omega), if_neg (by omega)]
    refine zI ?_
    refine zE ?_
    refine wc_upd 3 (.int .i64 ((l.length - 1 - k : Nat) : Int)) rfl (congrArg (Value.int .i64) e3) ?_
    refine wc_seq ?_
    refine wc_block ?_
    repeat refine wc_seq ?_
    refine wc_lateY (X := Unit) [true, true, false, false, true, true, true, true, true, true, true, true, true, false, false, false] (fun _ => [(0, .slice (some ⟨g, pre.length, none⟩) l.length cap), (2, .int .i64 (k : Nat)), (3, .int .i64 ((l.length - 1 - k : Nat) : Int))]) (fun _ => [grpB (othersL W g), ⟨g, 3, pre ++ (ci (swG 0 l (k + 1)) ++ junk), true, none⟩])
      5 [grpB (othersL W g), ⟨g, 3, pre ++ (ci (swG 0 l k) ++ junk), true, none⟩] Tryz.mixed (by kernel_rfl) ?_ ?_
    · refine wq_pure Tryz.hT rfl rfl rfl ?_
      refine wq_pure Tryz.hT rfl rfl rfl ?_
      refine wq_pure Tryz.hT rfl rfl rfl ?_
      refine wq_pure Tryz.hT rfl rfl rfl ?_
      refine wq_indexAddr Tryz.hT rfl rfl rfl rfl rfl rfl rfl (by omega) (by omega) ?_
      refine wq_load rfl rfl rfl rfl (fun W hp => RowAt.load 0 Tryz.hT rfl ((fun W1 hp => show RowAt W1 g (pre.length + (l.length - 1 - k) * 1) [Value.int .i64 (l.getD (l.length - 1 - k) 0)] from by rw [← s1]; exact row_numO hp 1 rfl (by rw [swG_len]; omega)) W hp) rfl) ?_
      refine wq_pure Tryz.hT rfl rfl rfl ?_
      refine wq_pure Tryz.hT rfl rfl rfl ?_
      refine wq_indexAddr Tryz.hT rfl rfl rfl rfl rfl rfl rfl (by omega) (by omega) ?_
      refine wq_load rfl rfl rfl rfl (fun W hp => RowAt.load 0 Tryz.hT rfl ((fun W1 hp => show RowAt W1 g (pre.length + k * 1) [Value.int .i64 (l.getD (k) 0)] from by rw [← s2]; exact row_numO hp 1 rfl (by rw [swG_len]; omega)) W hp) rfl) ?_
      refine wq_indexAddr Tryz.hT rfl rfl rfl rfl rfl rfl rfl (by omega) (by omega) ?_
      refine wq_wt ?_
      have h1 : splice (pre ++ (ci (swG 0 l k) ++ junk)) (pre.length + k * 1) (Value.int .i64 (l.getD (l.length - 1 - k) 0)).cells.toList = pre ++ (ci ((swG 0 l k).set k (l.getD (l.length - 1 - k) 0)) ++ junk) := by
        rw [splice_right]; congr 1; exact set_num _ (by rw [swG_len]; omega)
      have h2 : splice (pre ++ (ci ((swG 0 l k).set k (l.getD (l.length - 1 - k) 0)) ++ junk)) (pre.length + (l.length - 1 - k) * 1) (Value.int .i64 (l.getD (k) 0)).cells.toList = pre ++ (ci (swG 0 l (k + 1)) ++ junk) := by
        rw [splice_right, swG_succ 0 hd]; congr 1; exact set_num _ (by rw [List.length_set, swG_len]; omega)
      refine wt_step rfl rfl (by ((repeat (first | refine Weak.same ?_ | refine Weak.off rfl ?_)); exact trivial)) ?_
      refine RS.cons ?_ (RS.cons ?_ (RS.cons ?_ (RS.nil)))
      · refine wl_pure Tryz.hT rfl rfl rfl ?_
        refine wl_nil ?_
        refine ne_wt ?_
        refine wt_step rfl rfl (by ((repeat (first | refine Weak.same ?_ | refine Weak.off rfl ?_)); exact trivial)) ?_
        refine RS.cons ?_ (RS.cons ?_ (RS.nil))
        · refine wl_pure Tryz.hT rfl rfl rfl ?_
          refine wl_nil ?_
          refine ne_wt ?_
          refine wt_step rfl rfl (by ((repeat (first | refine Weak.same ?_ | refine Weak.off rfl ?_)); exact trivial)) ?_
          refine RS.cons ?_ (RS.nil)
          refine wl_storeTo 1 _ Tryz.hT rfl rfl rfl rfl rfl rfl rfl rfl rfl rfl (by show pre.length + k * 1 + 1 ≤ (pre ++ (ci (swG 0 l k) ++ junk)).length; rw [List.length_append, List.length_append, ci_length, swG_len]; omega) h1 ?_
          refine wl_nil ?_
          refine ne_wt ?_
          refine wt_stepF rfl rfl (by kernel_rfl) ?_
          refine RS.cons ?_ (RS.nil)
          refine wl_indexAddr Tryz.hT rfl rfl rfl rfl rfl rfl rfl (by omega) (by omega) ?_
          refine wl_nil ?_
          refine ne_wt ?_
          refine wt_stepF rfl rfl (by kernel_rfl) ?_
          refine RS.cons ?_ (RS.nil)
          refine wl_storeTo 1 _ Tryz.hT rfl rfl rfl rfl rfl rfl rfl rfl rfl rfl (by show pre.length + (l.length - 1 - k) * 1 + 1 ≤ (pre ++ (ci ((swG 0 l k).set k (l.getD (l.length - 1 - k) 0)) ++ junk)).length; rw [List.length_append, List.length_append, ci_length, List.length_set, swG_len]; omega) h2 ?_
          refine wl_nil ?_
          refine ne_wt ?_
          refine wt_doneF rfl (by kernel_rfl) ?_
          exact ne_late () ⟨rfl, rfl, rfl, trivial⟩ [0, 1] (by decide) rfl
        · refine wl_storeTo 1 _ Tryz.hT rfl rfl rfl rfl rfl rfl rfl rfl rfl rfl (by show pre.length + k * 1 + 1 ≤ (pre ++ (ci (swG 0 l k) ++ junk)).length; rw [List.length_append, List.length_append, ci_length, swG_len]; omega) h1 ?_
          refine wl_nil ?_
          refine ne_wt ?_
          refine wt_stepF rfl rfl (by kernel_rfl) ?_
          refine RS.cons ?_ (RS.nil)
          refine wl_pure Tryz.hT rfl rfl rfl ?_
          refine wl_nil ?_
          refine ne_wt ?_
          refine wt_stepF rfl rfl (by kernel_rfl) ?_
          refine RS.cons ?_ (RS.nil)
          refine wl_indexAddr Tryz.hT rfl rfl rfl rfl rfl rfl rfl (by omega) (by omega) ?_
          refine wl_nil ?_
          refine ne_wt ?_
          refine wt_stepF rfl rfl (by kernel_rfl) ?_
          refine RS.cons ?_ (RS.nil)
          refine wl_storeTo 1 _ Tryz.hT rfl rfl rfl rfl rfl rfl rfl rfl rfl rfl (by show pre.length + (l.length - 1 - k) * 1 + 1 ≤ (pre ++ (ci ((swG 0 l k).set k (l.getD (l.length - 1 - k) 0)) ++ junk)).length; rw [List.length_append, List.length_append, ci_length, List.length_set, swG_len]; omega) h2 ?_
          refine wl_nil ?_
          refine ne_wt ?_
          refine wt_doneF rfl (by kernel_rfl) ?_
          exact ne_late () ⟨rfl, rfl, rfl, trivial⟩ [0, 1] (by decide) rfl
      · refine wl_pure Tryz.hT rfl rfl rfl ?_
        refine wl_nil ?_
        refine ne_wt ?_
        refine wt_step rfl rfl (by ((repeat (first | refine Weak.same ?_ | refine Weak.off rfl ?_)); exact trivial)) ?_
        refine RS.cons ?_ (RS.cons ?_ (RS.nil))
        · refine wl_pure Tryz.hT rfl rfl rfl ?_
          refine wl_nil ?_
          refine ne_wt ?_
          refine wt_step rfl rfl (by ((repeat (first | refine Weak.same ?_ | refine Weak.off rfl ?_)); exact trivial)) ?_
          refine RS.cons ?_ (RS.nil)
          refine wl_storeTo 1 _ Tryz.hT rfl rfl rfl rfl rfl rfl rfl rfl rfl rfl (by show pre.length + k * 1 + 1 ≤ (pre ++ (ci (swG 0 l k) ++ junk)).length; rw [List.length_append, List.length_append, ci_length, swG_len]; omega) h1 ?_
          refine wl_nil ?_
          refine ne_wt ?_
          refine wt_stepF rfl rfl (by kernel_rfl) ?_
          refine RS.cons ?_ (RS.nil)
          refine wl_indexAddr Tryz.hT rfl rfl rfl rfl rfl rfl rfl (by omega) (by omega) ?_
          refine wl_nil ?_
          refine ne_wt ?_
          refine wt_stepF rfl rfl (by kernel_rfl) ?_
          refine RS.cons ?_ (RS.nil)
          refine wl_storeTo 1 _ Tryz.hT rfl rfl rfl rfl rfl rfl rfl rfl rfl rfl (by show pre.length + (l.length - 1 - k) * 1 + 1 ≤ (pre ++ (ci ((swG 0 l k).set k (l.getD (l.length - 1 - k) 0)) ++ junk)).length; rw [List.length_append, List.length_append, ci_length, List.length_set, swG_len]; omega) h2 ?_
          refine wl_nil ?_
          refine ne_wt ?_
          refine wt_doneF rfl (by kernel_rfl) ?_
          exact ne_late () ⟨rfl, rfl, rfl, trivial⟩ [0, 1] (by decide) rfl
        · refine wl_storeTo 1 _ Tryz.hT rfl rfl rfl rfl rfl rfl rfl rfl rfl rfl (by show pre.length + k * 1 + 1 ≤ (pre ++ (ci (swG 0 l k) ++ junk)).length; rw [List.length_append, List.length_append, ci_length, swG_len]; omega) h1 ?_
          refine wl_nil ?_
          refine ne_wt ?_
          refine wt_stepF rfl rfl (by kernel_rfl) ?_
          refine RS.cons ?_ (RS.nil)
          refine wl_pure Tryz.hT rfl rfl rfl ?_
          refine wl_nil ?_
          refine ne_wt ?_
          refine wt_stepF rfl rfl (by kernel_rfl) ?_
          refine RS.cons ?_ (RS.nil)
          refine wl_indexAddr Tryz.hT rfl rfl rfl rfl rfl rfl rfl (by omega) (by omega) ?_
          refine wl_nil ?_
          refine ne_wt ?_
          refine wt_stepF rfl rfl (by kernel_rfl) ?_
          refine RS.cons ?_ (RS.nil)
          refine wl_storeTo 1 _ Tryz.hT rfl rfl rfl rfl rfl rfl rfl rfl rfl rfl (by show pre.length + (l.length - 1 - k) * 1 + 1 ≤ (pre ++ (ci ((swG 0 l k).set k (l.getD (l.length - 1 - k) 0)) ++ junk)).length; rw [List.length_append, List.length_append, ci_length, List.length_set, swG_len]; omega) h2 ?_
          refine wl_nil ?_
          refine ne_wt ?_
          refine wt_doneF rfl (by kernel_rfl) ?_
          exact ne_late () ⟨rfl, rfl, rfl, trivial⟩ [0, 1] (by decide) rfl
      · refine wl_storeTo 1 _ Tryz.hT rfl rfl rfl rfl rfl rfl rfl rfl rfl rfl (by show pre.length + k * 1 + 1 ≤ (pre ++ (ci (swG 0 l k) ++ junk)).length; rw [List.length_append, List.length_append, ci_length, swG_len]; omega) h1 ?_
        refine wl_nil ?_
        refine ne_wt ?_
        refine wt_stepF rfl rfl (by kernel_rfl) ?_
        refine RS.cons ?_ (RS.cons ?_ (RS.nil))
        · refine wl_pure Tryz.hT rfl rfl rfl ?_
          refine wl_nil ?_
          refine ne_wt ?_
          refine wt_stepF rfl rfl (by kernel_rfl) ?_
          refine RS.cons ?_ (RS.nil)
          refine wl_pure Tryz.hT rfl rfl rfl ?_
          refine wl_nil ?_
          refine ne_wt ?_
          refine wt_stepF rfl rfl (by kernel_rfl) ?_
          refine RS.cons ?_ (RS.nil)
          refine wl_indexAddr Tryz.hT rfl rfl rfl rfl rfl rfl rfl (by omega) (by omega) ?_
          refine wl_nil ?_
          refine ne_wt ?_
          refine wt_stepF rfl rfl (by kernel_rfl) ?_
          refine RS.cons ?_ (RS.nil)
          refine wl_storeTo 1 _ Tryz.hT rfl rfl rfl rfl rfl rfl rfl rfl rfl rfl (by show pre.length + (l.length - 1 - k) * 1 + 1 ≤ (pre ++ (ci ((swG 0 l k).set k (l.getD (l.length - 1 - k) 0)) ++ junk)).length; rw [List.length_append, List.length_append, ci_length, List.length_set, swG_len]; omega) h2 ?_
          refine wl_nil ?_
          refine ne_wt ?_
          refine wt_doneF rfl (by kernel_rfl) ?_
          exact ne_late () ⟨rfl, rfl, rfl, trivial⟩ [0, 1] (by decide) rfl
        · refine wl_pure Tryz.hT rfl rfl rfl ?_
          refine wl_nil ?_
          refine ne_wt ?_
          refine wt_stepF rfl rfl (by kernel_rfl) ?_
          refine RS.cons ?_ (RS.nil)
          refine wl_pure Tryz.hT rfl rfl rfl ?_
          refine wl_nil ?_
          refine ne_wt ?_
          refine wt_stepF rfl rfl (by kernel_rfl) ?_
          refine RS.cons ?_ (RS.nil)
          refine wl_indexAddr Tryz.hT rfl rfl rfl rfl rfl rfl rfl (by omega) (by omega) ?_
          refine wl_nil ?_
          refine ne_wt ?_
          refine wt_stepF rfl rfl (by kernel_rfl) ?_
          refine RS.cons ?_ (RS.nil)
          refine wl_storeTo 1 _ Tryz.hT rfl rfl rfl rfl rfl rfl rfl rfl rfl rfl (by show pre.length + (l.length - 1 - k) * 1 + 1 ≤ (pre ++ (ci ((swG 0 l k).set k (l.getD (l.length - 1 - k) 0)) ++ junk)).length; rw [List.length_append, List.length_append, ci_length, List.length_set, swG_len]; omega) h2 ?_
          refine wl_nil ?_
          refine ne_wt ?_
          refine wt_doneF rfl (by kernel_rfl) ?_
          exact ne_late () ⟨rfl, rfl, rfl, trivial⟩ [0, 1] (by decide) rfl
    intro _
    refine zN ?_
    refine zE ?_
    refine zB ?_
    refine wl_pure Tryz.hT rfl rfl rfl ?_
    refine wl_pure Tryz.hT rfl rfl rfl ?_
    refine wl_pure Tryz.hT rfl rfl rfl ?_
    refine wl_pure Tryz.hT rfl rfl rfl ?_
    refine wl_upd 13 (.int .i64 ((l.length : Nat) - 1 - ((k + 1 : Nat) : Int))) rfl (congrArg (Value.int .i64) (show w64 (((l.length - 1 - k : Nat) : Int) - 1) = _ by rw [w64_id (by omega) (by omega)]; omega)) ?_
    refine wl_pure Tryz.hT rfl rfl rfl ?_
    refine wl_pure Tryz.hT rfl rfl rfl ?_
    refine wl_nil ?_
    exact ne_loop (k + 1) (by show 2 * (k + 1) ≤ l.length; omega) (by omega) ⟨rfl, congrArg (fun z => some (Value.int .i64 z)) (wrap_id (x := (k : Int) + 1) (by omega) (by omega)), rfl, trivial⟩ [] rfl
  refine key.mono ?_
  rintro e W' ⟨x, he, _, hb, hn'⟩
  exact ⟨x, he, trivial, near_of hg rfl hb hn'⟩
section
variable {r : Option Nat} {n : Nat} {W0 : World} {N : Nat} {D : List Deferred} {ops : List Oper} {Q : Exit → Act → World → Prop} {o : Oper} {rest : List Oper} {env : Env} {bxs : List Bx}
theorem wl_revnum (k : Nat) (pre : List Value) (l : List Int) (junk : List Value) (ys : List Value) {c : Call} {f : Operand} {d g cap off m : Nat} {xs : List Value}
    (hg : guardE ops N env o = some true) (hd : o.dst = some d) (ho : o.op = .call c) (hc : c.callee = .value f) (hf : evO N env f = some (.func (.func 147) #[] #[])) (ha : evArgs (evO N env) c.args.toList = some [.slice (some ⟨g, off, none⟩) m cap])
    (hk : nth bxs k = some ⟨g, 3, xs, true, none⟩) (hm : m = l.length) (hoff : off = pre.length) (hxs : xs = pre ++ (ci l ++ junk)) (hys : pre ++ (ci l.reverse ++ junk) = ys) (hn : l.length < 4611686018427387904)
    (h : WL r n Tryz.prog N D ops Q rest ((d, .tuple #[]) :: env) (Hp W0 (bxs.set k ⟨g, 3, ys, true, none⟩))) : WL r n Tryz.prog N D ops Q (o :: rest) env (Hp W0 bxs) := by
  subst hm; subst hxs; subst hys
  refine wl_callN (X := Unit) (val := fun _ => .tuple #[]) (Φ := fun _ => True) (capt := []) k (B := ⟨g, 3, pre ++ (ci l ++ junk), true, none⟩) (L1 := []) (L2 := []) (b := g) (ob := .cells (pre ++ (ci l ++ junk)).toArray 3 (0, 0)) (fun _ => ⟨g, 3, pre ++ (ci l.reverse ++ junk), true, none⟩) (g' := fun _ => g) (o' := fun _ => .cells (pre ++ (ci l.reverse ++ junk)).toArray 3 (0, 0))
    hg hd ho hc hf ha (by kernel_rfl) hk rfl (fun _ _ => rfl) (fun W hp => ?_) (fun _ _ => h)
  have hk' : bxs[k]? = some ⟨g, 3, pre ++ (ci l ++ junk), true, none⟩ := by rw [← nth_eq]; exact hk
  exact revnum_gives W g cap off pre junk l hoff hn (hp.own.cell k _ hk' (g, .cells (pre ++ (ci l ++ junk)).toArray 3 (0, 0)) (List.mem_cons_self ..)).1
end
theorem cloneI_gives (W : World) (b off cap : Nat) (l : List Int) (hn : l.length < 1099511627776) (hR : RowAt W b off (ci l)) (hne : l ≠ []) :
    CallsR Tryz.prog 146 #[.slice (some ⟨b, off, none⟩) l.length cap] W (fun V : Vec => V.val l.length) (fun V => V.OK 1 l.length (ci l) ∧ V.p ≠ none) (fun V => [V.bx 3 (ci l)]) := by
  refine calls_enter (args := [.slice (some ⟨b, off, none⟩) l.length cap]) Tryz.func146 rfl rfl rfl ?_
  refine zA ?_
  refine zB ?_
  refine wl_pure Tryz.hT rfl rfl rfl ?_
  refine wl_nil ?_
  refine zE ?_
  refine zA ?_
  refine zA ?_
  refine zB ?_
  refine wl_pure Tryz.hT rfl rfl rfl ?_
  refine wl_nilEq Tryz.hT rfl rfl rfl rfl rfl rfl rfl ?_
  refine zC ?_
  refine zE ?_
  refine zS rfl ?_
  refine zI ?_
  refine zE ?_
  refine zA ?_
  refine zB ?_
  refine wl_buildEmpty Tryz.hT rfl rfl rfl rfl rfl ?_
  intro g
  refine wl_pure Tryz.hT rfl rfl rfl ?_
  refine wl_append (len := 0) (V := ⟨some g, 0, []⟩) (xs := []) 0 Tryz.vec60 rfl rfl rfl rfl rfl rfl rfl rfl rfl ⟨rfl, (fun h => by cases h), fun _ => ⟨Nat.le_refl _, Nat.zero_le _, rfl⟩⟩ (ci_length l) (fun W hp j u hj => ?_) (ci_one _) (by simp only [maxLen]; omega) (by omega) ?_
  · rw [Addr.add_none]
    exact (hR.hp hp).get j u hj
  intro V hV hp0
  refine wl_pure Tryz.hT rfl rfl rfl ?_
  refine wl_nil ?_
  refine zE ?_
  refine zO ?_
  have e0 : 0 + l.length = l.length := Nat.zero_add _
  rw [e0, List.nil_append] at hV
  exact ne_ret1 Tryz.hT rfl (.tmp rfl) V (by rw [e0]) ⟨hV, fun h => hne (List.length_eq_zero_iff.1 (hp0 h))⟩ fun W hp => NewBx.of_hp1 hp 0 rfl
set_option maxHeartbeats 4000000 in
theorem rotside_gives (W : World) (p : Option Addr) (cap : Nat) (l : List Sd) (k : Nat) (hk : k < l.length) (hn : l.length < 1099511627776) (hR : RingP W p l) :
    CallsR Tryz.prog 91 #[.slice p l.length cap, .int .i64 (k : Nat)] W (fun V : Vec => V.val l.length) (fun V => V.OK 7 l.length (cellsOf (rot l k)) ∧ V.p ≠ none) (fun V => [V.bx 42 (cellsOf (rot l k))]) := by
  have hne : l ≠ [] := fun h => by subst h; exact absurd hk (Nat.not_lt_zero _)
  refine calls_enter (args := [.slice p l.length cap, .int .i64 (k : Nat)]) Tryz.func91 rfl rfl rfl ?_
  refine zA ?_
  refine zB ?_
  refine wl_pure Tryz.hT rfl rfl rfl ?_
  refine wl_nil ?_
  refine zE ?_
  refine zA ?_
  refine zB ?_
  refine wl_pure Tryz.hT rfl rfl rfl ?_
  refine wl_call (X := Vec) rfl rfl rfl rfl rfl rfl (by kernel_rfl) (fun W hp => clone_gives W p cap l hn (hR.hp hp) hne) ?_
  rintro U0 ⟨hU0, hUp⟩
  obtain ⟨pU, capU, junk⟩ := U0
  cases pU with
  | none => exact absurd rfl hUp
  | some gU =>
  obtain ⟨hc0, hc1, hc2⟩ := hU0.cap (by simp)
  have hc0 : l.length ≤ capU := hc0
  have hc2 : (cellsOf l).length + junk.length = capU * 7 := hc2
  have et : (l.take k).length = k := by rw [List.length_take]; omega
  have e1 : cellsOf l ++ junk = [] ++ (cellsOf (l.take k) ++ (cellsOf (l.drop k) ++ junk)) := by
    rw [List.nil_append, ← List.append_assoc, ← cellsOf_append, List.take_append_drop]
  have e2 : [] ++ (cellsOf (l.take k).reverse ++ (cellsOf (l.drop k) ++ junk)) = cellsOf (l.take k).reverse ++ (cellsOf (l.drop k) ++ junk) := List.nil_append _
  have e3 : cellsOf (l.take k).reverse ++ (cellsOf (l.drop k).reverse ++ junk) = [] ++ (cellsOf (rot l k).reverse ++ junk) := by
    rw [List.nil_append, ← List.append_assoc, ← cellsOf_append, rot, List.reverse_append]
  have e4 : [] ++ (cellsOf (rot l k).reverse.reverse ++ junk) = cellsOf (rot l k) ++ junk := by rw [List.nil_append, List.reverse_reverse]
  refine wl_pure Tryz.hT rfl rfl rfl ?_
  refine wl_nil ?_
  refine zE ?_
  refine zA ?_
  refine zB ?_
  refine wl_pure Tryz.hT rfl rfl rfl ?_
  refine wl_pure Tryz.hT rfl rfl rfl ?_
  refine wl_slice_h k Tryz.hT rfl rfl rfl rfl rfl rfl rfl rfl (by omega) ?_
  refine wl_revside 0 [] (l.take k) (cellsOf (l.drop k) ++ junk) _ rfl rfl rfl rfl rfl rfl rfl et.symm rfl e1 e2 (by rw [et]; omega) ?_
  refine zC ?_
  refine zE ?_
  refine zA ?_
  refine zB ?_
  refine wl_pure Tryz.hT rfl rfl rfl ?_
  refine wl_pure Tryz.hT rfl rfl rfl ?_
  refine wl_slice_l k Tryz.hT rfl rfl rfl rfl rfl rfl rfl rfl (by omega) hc0 ?_
  refine wl_revside 0 (cellsOf (l.take k).reverse) (l.drop k) junk _ rfl rfl rfl rfl rfl rfl rfl (by rw [List.length_drop]) (by rw [if_neg (by omega), cellsOf_length, List.length_reverse, et]; exact Nat.zero_add _) rfl e3 (by rw [List.length_drop]; omega) ?_
  refine zC ?_
  refine zE ?_
  refine zA ?_
  refine zB ?_
  refine wl_pure Tryz.hT rfl rfl rfl ?_
  refine wl_revside 0 [] (rot l k).reverse junk _ rfl rfl rfl rfl rfl rfl rfl (by rw [List.length_reverse, rot_len]) rfl rfl e4 (by rw [List.length_reverse, rot_len]; omega) ?_
  refine zC ?_
  refine zE ?_
  refine zA ?_
  refine zB ?_
  refine wl_pure Tryz.hT rfl rfl rfl ?_
  refine wl_pure Tryz.hT rfl rfl rfl ?_
  refine wl_nil ?_
  refine zE ?_
  refine zO ?_
  refine ne_ret1 Tryz.hT rfl (.tmp rfl) ⟨some gU, capU, junk⟩ rfl ⟨⟨by rw [cellsOf_length, rot_len], (fun h => by cases h), fun _ => ⟨hc0, hc1, ?_⟩⟩, hUp⟩ fun W hp => NewBx.of_hp1 hp 0 rfl
  show (cellsOf (rot l k)).length + junk.length = capU * 7
  rw [← hc2, cellsOf_length, cellsOf_length, rot_len]
set_option maxHeartbeats 4000000 in
theorem rotnum_gives (W : World) (b off : Nat) (cap : Nat) (l : List Int) (k : Nat) (hk : k < l.length) (hn : l.length < 1099511627776) (hR : RowAt W b off (ci l)) :
    CallsR Tryz.prog 92 #[.slice (some ⟨b, off, none⟩) l.length cap, .int .i64 (k : Nat)] W (fun V : Vec => V.val l.length) (fun V => V.OK 1 l.length (ci (rot l k)) ∧ V.p ≠ none) (fun V => [V.bx 3 (ci (rot l k))]) := by
  have hne : l ≠ [] := fun h => by subst h; exact absurd hk (Nat.not_lt_zero _)
  refine calls_enter (args := [.slice (some ⟨b, off, none⟩) l.length cap, .int .i64 (k : Nat)]) Tryz.func92 rfl rfl rfl ?_
  refine zA ?_
  refine zB ?_
  refine wl_pure Tryz.hT rfl rfl rfl ?_
  refine wl_nil ?_
  refine zE ?_
  refine zA ?_
  refine zB ?_
  refine wl_pure Tryz.hT rfl rfl rfl ?_
  refine wl_call (X := Vec) rfl rfl rfl rfl rfl rfl (by kernel_rfl) (fun W hp => cloneI_gives W b off cap l hn (hR.hp hp) hne) ?_
  rintro U0 ⟨hU0, hUp⟩
  obtain ⟨pU, capU, junk⟩ := U0
  cases pU with
  | none => exact absurd rfl hUp
  | some gU =>
  obtain ⟨hc0, hc1, hc2⟩ := hU0.cap (by simp)
  have hc0 : l.length ≤ capU := hc0
  have hc2 : (ci l).length + junk.length = capU * 1 := hc2
  have et : (l.take k).length = k := by rw [List.length_take]; omega
  have e1 : ci l ++ junk = [] ++ (ci (l.take k) ++ (ci (l.drop k) ++ junk)) := by
    rw [List.nil_append, ← List.append_assoc, ← ci_append, List.take_append_drop]
  have e2 : [] ++ (ci (l.take k).reverse ++ (ci (l.drop k) ++ junk)) = ci (l.take k).reverse ++ (ci (l.drop k) ++ junk) := List.nil_append _
  have e3 : ci (l.take k).reverse ++ (ci (l.drop k).reverse ++ junk) = [] ++ (ci (rot l k).reverse ++ junk) := by
    rw [List.nil_append, ← List.append_assoc, ← ci_append, rot, List.reverse_append]
  have e4 : [] ++ (ci (rot l k).reverse.reverse ++ junk) = ci (rot l k) ++ junk := by rw [List.nil_append, List.reverse_reverse]
  refine wl_pure Tryz.hT rfl rfl rfl ?_
  refine wl_nil ?_
  refine zE ?_
  refine zA ?_
  refine zB ?_
  refine wl_pure Tryz.hT rfl rfl rfl ?_
  refine wl_pure Tryz.hT rfl rfl rfl ?_
  refine wl_slice_h k Tryz.hT rfl rfl rfl rfl rfl rfl rfl rfl (by omega) ?_
  refine wl_revnum 0 [] (l.take k) (ci (l.drop k) ++ junk) _ rfl rfl rfl rfl rfl rfl rfl et.symm rfl e1 e2 (by rw [et]; omega) ?_
  refine zC ?_
  refine zE ?_
  refine zA ?_
  refine zB ?_
  refine wl_pure Tryz.hT rfl rfl rfl ?_
  refine wl_pure Tryz.hT rfl rfl rfl ?_
  refine wl_slice_l k Tryz.hT rfl rfl rfl rfl rfl rfl rfl rfl (by omega) hc0 ?_
  refine wl_revnum 0 (ci (l.take k).reverse) (l.drop k) junk _ rfl rfl rfl rfl rfl rfl rfl (by rw [List.length_drop]) (by rw [if_neg (by omega), ci_length, List.length_reverse, et]; exact Nat.zero_add _) rfl e3 (by rw [List.length_drop]; omega) ?_
  refine zC ?_
  refine zE ?_
  refine zA ?_
  refine zB ?_
  refine wl_pure Tryz.hT rfl rfl rfl ?_
  refine wl_revnum 0 [] (rot l k).reverse junk _ rfl rfl rfl rfl rfl rfl rfl (by rw [List.length_reverse, rot_len]) rfl rfl e4 (by rw [List.length_reverse, rot_len]; omega) ?_
  refine zC ?_
  refine zE ?_
  refine zA ?_
  refine zB ?_
  refine wl_pure Tryz.hT rfl rfl rfl ?_
  refine wl_pure Tryz.hT rfl rfl rfl ?_
  refine wl_nil ?_
  refine zE ?_
  refine zO ?_
  refine ne_ret1 Tryz.hT rfl (.tmp rfl) ⟨some gU, capU, junk⟩ rfl ⟨⟨by rw [ci_length, rot_len], (fun h => by cases h), fun _ => ⟨hc0, hc1, ?_⟩⟩, hUp⟩ fun W hp => NewBx.of_hp1 hp 0 rfl
  show (ci (rot l k)).length + junk.length = capU * 1
  rw [← hc2, ci_length, ci_length, rot_len]
end Go.Proofs.YtnpfkmbcejgnjaaGreatDoor
