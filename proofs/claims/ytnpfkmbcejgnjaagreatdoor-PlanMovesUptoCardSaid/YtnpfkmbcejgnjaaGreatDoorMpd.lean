/-
  Lemmas that the theorem planMoves_upto_card needs (part 4 of 7).
-/
import Derived.Test.YtnpfkmbcejgnjaaGreatDoorMpc
import Derived.Shelf.Small.Bits
import Derived.Test.YtnpfkmbcejgnjaaGreatDoorRows
import Derived.Deep.Slices
import Derived.ChangeArms
import Derived.ChangeShapes
import Derived.WideShapes
import Derived.Carry
import Derived.Laws.Append
namespace Go.Proofs.YtnpfkmbcejgnjaaGreatDoor
open Go Go.RowKit Go.Am
set_option maxRecDepth 10000
-- BOXES 2
theorem cells_splitR {L : List Sd} {j : Nat} (hj : j < L.length) : cellsOf L = cellsOf (L.take j) ++ ((sd L j).cells ++ cellsOf (L.drop (j + 1))) := by
  have e : L = L.take j ++ (sd L j :: L.drop (j + 1)) := by
    have h := List.take_append_drop j L
    rw [List.drop_eq_getElem_cons hj] at h
    rw [show sd L j = L[j] by simp [sd, hj]]
    exact h.symm
  conv => lhs; rw [e]
  rw [cellsOf_append]
  rfl
/-- A whole side stored into a row. -/
theorem set_sideR (s : Sd) {junk : List Value} {L : List Sd} {j : Nat} (hj : j < L.length) : splice (cellsOf L ++ junk) (j * 7) s.val.cells.toList = cellsOf (L.set j s) ++ junk := by
  have hl : (cellsOf (L.take j)).length = j * 7 := by rw [cellsOf_length, List.length_take, Nat.min_eq_left (by omega)]
  have e2 : cellsOf (L.set j s) = cellsOf (L.take j) ++ (s.cells ++ cellsOf (L.drop (j + 1))) := by
    rw [cells_splitR (L := L.set j s) (j := j) (by rw [List.length_set]; exact hj), List.take_set_of_le (Nat.le_refl _), List.drop_set_of_lt (by omega), show sd (L.set j s) j = s by simp [sd, hj]]
  rw [cells_splitR hj, e2]
  simp only [List.append_assoc]
  rw [show j * 7 = (cellsOf (L.take j)).length + 0 by omega, splice_right]
  rfl
/-- The list, its first k and its last k exchanged. -/
def swG {α : Type} (d : α) (l : List α) (k : Nat) : List α := (List.range l.length).map fun m => if m < k ∨ l.length - 1 - m < k then l.getD (l.length - 1 - m) d else l.getD m d
section
variable {α : Type} (d : α)
theorem swG_len (l : List α) (k : Nat) : (swG d l k).length = l.length := by simp [swG]
theorem swG_at {l : List α} {k m : Nat} (hm : m < l.length) : (swG d l k).getD m d = if m < k ∨ l.length - 1 - m < k then l.getD (l.length - 1 - m) d else l.getD m d := by
  rw [List.getD_eq_getElem?_getD, swG, List.getElem?_map, List.getElem?_range hm]; rfl
theorem list_ext_D {l m : List α} (h : l.length = m.length) (hs : ∀ i, i < l.length → l.getD i d = m.getD i d) : l = m := by
  refine List.ext_getElem h fun i h1 h2 => ?_
  have := hs i h1
  rw [List.getD_eq_getElem?_getD, List.getD_eq_getElem?_getD, List.getElem?_eq_getElem h1, List.getElem?_eq_getElem h2] at this
  exact this
theorem swG_zero (l : List α) : swG d l 0 = l := list_ext_D d (swG_len d l 0) fun i hi => by
  rw [swG_len] at hi
  rw [swG_at d hi, if_neg (by omega)]
theorem setD {l : List α} {i : Nat} (hi : i < l.length) (s : α) (k : Nat) : (l.set i s).getD k d = if k = i then s else l.getD k d := by
  rw [List.getD_eq_getElem?_getD, List.getD_eq_getElem?_getD]
  by_cases e : k = i
  · subst e; rw [if_pos rfl, List.getElem?_set_self hi]; rfl
  · rw [if_neg e, List.getElem?_set_ne (fun h => e h.symm)]
theorem swG_succ {l : List α} {k : Nat} (hk : k < l.length - 1 - k) : swG d l (k + 1) = ((swG d l k).set k (l.getD (l.length - 1 - k) d)).set (l.length - 1 - k) (l.getD k d) := list_ext_D d (by rw [swG_len, List.length_set, List.length_set, swG_len]) fun i hi => by
  rw [swG_len] at hi
  rw [swG_at d hi, setD d (by rw [List.length_set, swG_len]; omega), setD d (by rw [swG_len]; omega), swG_at d hi]
  by_cases e1 : i = l.length - 1 - k
  · rw [if_pos e1, if_pos (by omega), e1, show l.length - 1 - (l.length - 1 - k) = k by omega]
  by_cases e2 : i = k
  · rw [if_neg e1, if_pos e2, if_pos (by omega), e2]
  · rw [if_neg e1, if_neg e2]
    by_cases e3 : i < k ∨ l.length - 1 - i < k
    · rw [if_pos (by omega), if_pos e3]
    · rw [if_neg (by omega), if_neg e3]
theorem swG_done {l : List α} {k : Nat} (hk : ¬ k < l.length - 1 - k) : swG d l k = l.reverse := list_ext_D d (by rw [swG_len, List.length_reverse]) fun i hi => by
  rw [swG_len] at hi
  rw [swG_at d hi]
  have hr : l.reverse.getD i d = l.getD (l.length - 1 - i) d := by
    rw [List.getD_eq_getElem?_getD, List.getD_eq_getElem?_getD, List.getElem?_reverse hi]
  rw [hr]
  by_cases e : i < k ∨ l.length - 1 - i < k
  · rw [if_pos e]
  · rw [if_neg e]; congr 1; omega
end
theorem ci_append (l m : List Int) : ci (l ++ m) = ci l ++ ci m := List.map_append
theorem ci_length (l : List Int) : (ci l).length = l.length * 1 := by rw [List.length_map, Nat.mul_one]
theorem ci_one : ∀ l : List Int, ∀ u ∈ ci l, u.oneCell' = true := fun l u hu => by
  obtain ⟨z, _, rfl⟩ := List.mem_map.1 hu
  rfl
theorem splice_at1 : ∀ (c : List Value) (j : Nat) (v : Value), j < c.length → splice c j [v] = c.set j v
  | [], j, _, h => absurd h (Nat.not_lt_zero _)
  | x :: c, 0, v, _ => by simp [splice]
  | x :: c, j + 1, v, h => by
    have ih := splice_at1 c j v (by simpa using h)
    have e := splice_right [x] c j [v]
    rw [List.length_singleton, Nat.add_comm 1 j] at e
    rw [show x :: c = [x] ++ c from rfl, e, ih]; rfl
theorem set_num (z : Int) {junk : List Value} {L : List Int} {j : Nat} (hj : j < L.length) : splice (ci L ++ junk) (j * 1) (Value.int .i64 z).cells.toList = ci (L.set j z) ++ junk := by
  rw [Nat.mul_one]
  show splice _ j [Value.int .i64 z] = _
  rw [splice_at1 _ _ _ (by rw [List.length_append, List.length_map]; omega), List.set_append_left _ _ (by simpa using hj)]
  congr 1
  exact (List.map_set ..).symm
theorem row_sideO {W0 W : World} {bxs : List Bx} (hp : Hp W0 bxs W) (k : Nat) {g : Nat} {pre : List Value} {L : List Sd} {junk : List Value} (hk : nth bxs k = some ⟨g, 42, pre ++ (cellsOf L ++ junk), true, none⟩) {j : Nat} (hj : j < L.length) : RowAt W g (pre.length + j * 7) (L.getD j default).cells := by
  have h := RowAt.of_bx hp k hk rfl
  refine ⟨h.lt, fun m u hu => ?_⟩
  have hm : m < 7 := (List.getElem?_eq_some_iff.1 hu).1
  have h1 := cellsOf_get L j (sd L j) (sd_get hj) m hm
  rw [show (sd L j).cells[m]? = some u from hu] at h1
  have := h.get (pre.length + (j * 7 + m)) u (by
    show (pre ++ (cellsOf L ++ junk))[pre.length + (j * 7 + m)]? = some u
    rw [List.getElem?_append_right (by omega), Nat.add_sub_cancel_left, List.getElem?_append_left (List.getElem?_eq_some_iff.1 h1).1]
    exact h1)
  rw [Nat.zero_add, ← Nat.add_assoc] at this
  exact this
theorem row_numO {W0 W : World} {bxs : List Bx} (hp : Hp W0 bxs W) (k : Nat) {g : Nat} {pre : List Value} {L : List Int} {junk : List Value} (hk : nth bxs k = some ⟨g, 3, pre ++ (ci L ++ junk), true, none⟩) {j : Nat} (hj : j < L.length) : RowAt W g (pre.length + j * 1) [.int .i64 (L.getD j 0)] := by
  have h := RowAt.of_bx hp k hk rfl
  refine ⟨h.lt, fun m u hu => ?_⟩
  have hm : m = 0 := by have := (List.getElem?_eq_some_iff.1 hu).1; simp at this; omega
  subst hm
  have h1 : (ci L)[j]? = some u := by
    rw [List.getElem?_map, List.getElem?_eq_getElem hj, ← hu, List.getD_eq_getElem?_getD, List.getElem?_eq_getElem hj]; rfl
  have := h.get (pre.length + (j * 1 + 0)) u (by
    show (pre ++ (ci L ++ junk))[pre.length + (j * 1 + 0)]? = some u
    rw [List.getElem?_append_right (by omega), Nat.add_sub_cancel_left, Nat.mul_one, Nat.add_zero, List.getElem?_append_left (by simpa using hj)]
    exact h1)
  rw [Nat.zero_add, ← Nat.add_assoc] at this
  exact this
set_option maxHeartbeats 4000000 in
theorem revside_gives (W : World) (g cap off : Nat) (pre junk : List Value) (l : List Sd) (hoff : off = pre.length) (hn : l.length < 4611686018427387904) (hg : W.heap[g]? = some (.cells (pre ++ (cellsOf l ++ junk)).toArray 42 (0, 0))) :
    Calls Tryz.prog 31 #[.slice (some ⟨g, off, none⟩) l.length cap] W fun e W' => ∃ x : Unit, e = .returned ((fun _ => .tuple #[]) x) ∧ True ∧ Near W W' g ((fun _ => g) x) ((fun _ => .cells (pre ++ (cellsOf l.reverse ++ junk)).toArray 42 (0, 0)) x) := by
  subst hoff
  have key : Calls Tryz.prog 31 [.slice (some ⟨g, pre.length, none⟩) l.length cap].toArray W fun e W' => ∃ x : Unit, e = .returned ((fun _ => .tuple #[]) x) ∧ (fun _ => True) x ∧ Below (noHeap W).heap.size (noHeap W) W' ∧ NewBx (noHeap W) W' ((fun _ => [grpB (othersL W g), ⟨g, 42, pre ++ (cellsOf l.reverse ++ junk), true, none⟩]) x) := by
    refine calls_enterT (X := Unit) (val := fun _ => .tuple #[]) (Φ := fun _ => True) (nb := fun _ => [grpB (othersL W g), ⟨g, 42, pre ++ (cellsOf l.reverse ++ junk), true, none⟩]) (Hp.enterT (B := ⟨g, 42, pre ++ (cellsOf l ++ junk), true, none⟩) rfl hg) Tryz.func31 rfl rfl rfl ?_
    refine zA ?_
    refine zB ?_
    iterate 3 refine wl_pure Tryz.hT rfl rfl rfl ?_
    refine wl_upd 6 (.int .i64 ((l.length : Nat) - 1 - (0 : Nat))) rfl (congrArg (Value.int .i64) (show w64 ((l.length : Nat) - 1) = _ by rw [w64_id (by omega) (by omega)]; omega)) ?_
    iterate 2 refine wl_pure Tryz.hT rfl rfl rfl ?_
    refine wl_nil ?_
    refine zE ?_
    refine zH ?_
    refine wc_loop (X := Nat) (fun k => [(0, .slice (some ⟨g, pre.length, none⟩) l.length cap), (2, .int .i64 (k : Nat)), (3, .int .i64 ((l.length : Nat) - 1 - (k : Nat)))]) (fun k => [grpB (othersL W g), ⟨g, 42, pre ++ (cellsOf (swG default l k) ++ junk), true, none⟩])
      (fun k => 2 * k ≤ l.length) (fun k => l.length - k) 0 (Nat.zero_le _) ⟨rfl, rfl, rfl, trivial⟩ [] (by show _ = _ ++ []; rw [swG_zero]; rfl) ?_
    intro k hk
    iterate 2 refine zA ?_
    refine zB ?_
    iterate 3 refine wl_pure Tryz.hT rfl rfl rfl ?_
    refine wl_nil ?_
    refine zE ?_
    refine wc_cond rfl (fun h => ?_) (fun h => ?_)
    rotate_left
    · have hd : ¬ k < l.length - 1 - k := by
        have h' : decide ((k : Int) < (l.length : Nat) - 1 - (k : Nat)) = false := h
        rw [decide_eq_false_iff_not] at h'; omega
      rw [swG_done default hd]
      refine zJ ?_
      iterate 2 refine zK ?_
      refine zL ?_
      refine ne_end0 (X := Unit) (val := fun _ => .tuple #[]) (Φ := fun _ => True) (nb := fun _ => [grpB (othersL W g), ⟨g, 42, pre ++ (cellsOf l.reverse ++ junk), true, none⟩]) (fn := Tryz.f31) Tryz.hT rfl () rfl trivial fun W1 hp => ?_
      exact (hp.pick (l := [grpB (othersL W g), ⟨g, 42, pre ++ (cellsOf l.reverse ++ junk), true, none⟩]) [0, 1] (by decide) rfl).own
    have hd : k < l.length - 1 - k := by
      have h' : decide ((k : Int) < (l.length : Nat) - 1 - (k : Nat)) = true := h
      rw [decide_eq_true_iff] at h'; omega
    clear h
    have e3 : ((l.length : Nat) : Int) - 1 - (k : Nat) = ((l.length - 1 - k : Nat) : Int) := by omega
    have s1 : (swG default l k).getD (l.length - 1 - k) default = l.getD (l.length - 1 - k) default := by rw [swG_at default (by omega), if_neg (by omega)]
    have s2 : (swG default l k).getD k default = l.getD k default := by rw [swG_at default (by omega), if_neg (by omega)]
    refine zI ?_
    refine zE ?_
    refine wc_upd 3 (.int .i64 ((l.length - 1 - k : Nat) : Int)) rfl (congrArg (Value.int .i64) e3) ?_
    refine wc_seq ?_
    refine wc_block ?_
    repeat refine wc_seq ?_
    refine wc_lateY (X := Unit) [true, true, false, false, true, true, true, true, true, true, true, true, true, false, false, false] (fun _ => [(0, .slice (some ⟨g, pre.length, none⟩) l.length cap), (2, .int .i64 (k : Nat)), (3, .int .i64 ((l.length - 1 - k : Nat) : Int))]) (fun _ => [grpB (othersL W g), ⟨g, 42, pre ++ (cellsOf (swG default l (k + 1)) ++ junk), true, none⟩])
      5 [grpB (othersL W g), ⟨g, 42, pre ++ (cellsOf (swG default l k) ++ junk), true, none⟩] Tryz.mixed (by kernel_rfl) ?_ ?_
    · refine wq_pure Tryz.hT rfl rfl rfl ?_
      iterate 3 refine wq_pure Tryz.hT rfl rfl rfl ?_
      refine wq_indexAddr Tryz.hT rfl rfl rfl rfl rfl rfl rfl (by omega) (by omega) ?_
      refine wq_load rfl rfl rfl rfl (fun W hp => RowAt.load 0 Tryz.hT rfl ((fun W1 hp => show RowAt W1 g (pre.length + (l.length - 1 - k) * 7) (l.getD (l.length - 1 - k) default).cells from by rw [← s1]; exact row_sideO hp 1 rfl (by rw [swG_len]; omega)) W hp) rfl) ?_
      iterate 2 refine wq_pure Tryz.hT rfl rfl rfl ?_
      refine wq_indexAddr Tryz.hT rfl rfl rfl rfl rfl rfl rfl (by omega) (by omega) ?_
      refine wq_load rfl rfl rfl rfl (fun W hp => RowAt.load 0 Tryz.hT rfl ((fun W1 hp => show RowAt W1 g (pre.length + k * 7) (l.getD (k) default).cells from by rw [← s2]; exact row_sideO hp 1 rfl (by rw [swG_len]; omega)) W hp) rfl) ?_
      refine wq_indexAddr Tryz.hT rfl rfl rfl rfl rfl rfl rfl (by omega) (by omega) ?_
      refine wq_wt ?_
      have h1 : splice (pre ++ (cellsOf (swG default l k) ++ junk)) (pre.length + k * 7) (l.getD (l.length - 1 - k) default).val.cells.toList = pre ++ (cellsOf ((swG default l k).set k (l.getD (l.length - 1 - k) default)) ++ junk) := by
        rw [splice_right]; congr 1; exact set_sideR _ (by rw [swG_len]; omega)
      have h2 : splice (pre ++ (cellsOf ((swG default l k).set k (l.getD (l.length - 1 - k) default)) ++ junk)) (pre.length + (l.length - 1 - k) * 7) (l.getD (k) default).val.cells.toList = pre ++ (cellsOf (swG default l (k + 1)) ++ junk) := by
        rw [splice_right, swG_succ default hd]; congr 1; exact set_sideR _ (by rw [List.length_set, swG_len]; omega)
      refine wt_step rfl rfl (by ((repeat (first | refine Weak.same ?_ | refine Weak.off rfl ?_)); exact trivial)) ?_
      refine RS.cons ?_ (RS.cons ?_ (RS.cons ?_ (RS.nil)))
      · refine wl_pure Tryz.hT rfl rfl rfl ?_
        refine wl_nil ?_
        refine ne_wt ?_
        refine wt_step rfl rfl (by ((repeat (first | refine Weak.same ?_ | refine Weak.off rfl ?_)); exact trivial)) ?_
        refine RS.cons ?_ (RS.cons ?_ (RS.nil))
        · refine wl_pure Tryz.hT rfl rfl rfl ?_
          refine wl_nil ?_
          refine ne_wt ?_
          refine wt_step rfl rfl (by ((repeat (first | refine Weak.same ?_ | refine Weak.off rfl ?_)); exact trivial)) ?_
          refine RS.cons ?_ (RS.nil)
          refine wl_storeTo 1 _ Tryz.hT rfl rfl rfl rfl rfl rfl rfl rfl rfl rfl (by show pre.length + k * 7 + 7 ≤ (pre ++ (cellsOf (swG default l k) ++ junk)).length; rw [List.length_append, List.length_append, cellsOf_length, swG_len]; omega) h1 ?_
          refine wl_nil ?_
          refine ne_wt ?_
          refine wt_stepF rfl rfl (by kernel_rfl) ?_
          refine RS.cons ?_ (RS.nil)
          refine wl_indexAddr Tryz.hT rfl rfl rfl rfl rfl rfl rfl (by omega) (by omega) ?_
          refine wl_nil ?_
          refine ne_wt ?_
          refine wt_stepF rfl rfl (by kernel_rfl) ?_
          refine RS.cons ?_ (RS.nil)
          refine wl_storeTo 1 _ Tryz.hT rfl rfl rfl rfl rfl rfl rfl rfl rfl rfl (by show pre.length + (l.length - 1 - k) * 7 + 7 ≤ (pre ++ (cellsOf ((swG default l k).set k (l.getD (l.length - 1 - k) default)) ++ junk)).length; rw [List.length_append, List.length_append, cellsOf_length, List.length_set, swG_len]; omega) h2 ?_
          refine wl_nil ?_
          refine ne_wt ?_
          refine wt_doneF rfl (by kernel_rfl) ?_
          exact ne_late () ⟨rfl, rfl, rfl, trivial⟩ [0, 1] (by decide) rfl
        · refine wl_storeTo 1 _ Tryz.hT rfl rfl rfl rfl rfl rfl rfl rfl rfl rfl (by show pre.length + k * 7 + 7 ≤ (pre ++ (cellsOf (swG default l k) ++ junk)).length; rw [List.length_append, List.length_append, cellsOf_length, swG_len]; omega) h1 ?_
          refine wl_nil ?_
          refine ne_wt ?_
          refine wt_stepF rfl rfl (by kernel_rfl) ?_
          refine RS.cons ?_ (RS.nil)
          refine wl_pure Tryz.hT rfl rfl rfl ?_
          refine wl_nil ?_
          refine ne_wt ?_
          refine wt_stepF rfl rfl (by kernel_rfl) ?_
          refine RS.cons ?_ (RS.nil)
          refine wl_indexAddr Tryz.hT rfl rfl rfl rfl rfl rfl rfl (by omega) (by omega) ?_
          refine wl_nil ?_
          refine ne_wt ?_
          refine wt_stepF rfl rfl (by kernel_rfl) ?_
          refine RS.cons ?_ (RS.nil)
          refine wl_storeTo 1 _ Tryz.hT rfl rfl rfl rfl rfl rfl rfl rfl rfl rfl (by show pre.length + (l.length - 1 - k) * 7 + 7 ≤ (pre ++ (cellsOf ((swG default l k).set k (l.getD (l.length - 1 - k) default)) ++ junk)).length; rw [List.length_append, List.length_append, cellsOf_length, List.length_set, swG_len]; omega) h2 ?_
          refine wl_nil ?_
          refine ne_wt ?_
          refine wt_doneF rfl (by kernel_rfl) ?_
          exact ne_late () ⟨rfl, rfl, rfl, trivial⟩ [0, 1] (by decide) rfl
      · refine wl_pure Tryz.hT rfl rfl rfl ?_
        refine wl_nil ?_
        refine ne_wt ?_
        refine wt_step rfl rfl (by ((repeat (first | refine Weak.same ?_ | refine Weak.off rfl ?_)); exact trivial)) ?_
        refine RS.cons ?_ (RS.cons ?_ (RS.nil))
        · refine wl_pure Tryz.hT rfl rfl rfl ?_
          refine wl_nil ?_
          refine ne_wt ?_
          refine wt_step rfl rfl (by ((repeat (first | refine Weak.same ?_ | refine Weak.off rfl ?_)); exact trivial)) ?_
          refine RS.cons ?_ (RS.nil)
          refine wl_storeTo 1 _ Tryz.hT rfl rfl rfl rfl rfl rfl rfl rfl rfl rfl (by show pre.length + k * 7 + 7 ≤ (pre ++ (cellsOf (swG default l k) ++ junk)).length; rw [List.length_append, List.length_append, cellsOf_length, swG_len]; omega) h1 ?_
          refine wl_nil ?_
          refine ne_wt ?_
          refine wt_stepF rfl rfl (by kernel_rfl) ?_
          refine RS.cons ?_ (RS.nil)
          refine wl_indexAddr Tryz.hT rfl rfl rfl rfl rfl rfl rfl (by omega) (by omega) ?_
          refine wl_nil ?_
          refine ne_wt ?_
          refine wt_stepF rfl rfl (by kernel_rfl) ?_
          refine RS.cons ?_ (RS.nil)
          refine wl_storeTo 1 _ Tryz.hT rfl rfl rfl rfl rfl rfl rfl rfl rfl rfl (by show pre.length + (l.length - 1 - k) * 7 + 7 ≤ (pre ++ (cellsOf ((swG default l k).set k (l.getD (l.length - 1 - k) default)) ++ junk)).length; rw [List.length_append, List.length_append, cellsOf_length, List.length_set, swG_len]; omega) h2 ?_
          refine wl_nil ?_
          refine ne_wt ?_
          refine wt_doneF rfl (by kernel_rfl) ?_
          exact ne_late () ⟨rfl, rfl, rfl, trivial⟩ [0, 1] (by decide) rfl
        · refine wl_storeTo 1 _ Tryz.hT rfl rfl rfl rfl rfl rfl rfl rfl rfl rfl (by show pre.length + k * 7 + 7 ≤ (pre ++ (cellsOf (swG default l k) ++ junk)).length; rw [List.length_append, List.length_append, cellsOf_length, swG_len]; omega) h1 ?_
          refine wl_nil ?_
          refine ne_wt ?_
          refine wt_stepF rfl rfl (by kernel_rfl) ?_
          refine RS.cons ?_ (RS.nil)
          refine wl_pure Tryz.hT rfl rfl rfl ?_
          refine wl_nil ?_
          refine ne_wt ?_
          refine wt_stepF rfl rfl (by kernel_rfl) ?_
          refine RS.cons ?_ (RS.nil)
          refine wl_indexAddr Tryz.hT rfl rfl rfl rfl rfl rfl rfl (by omega) (by omega) ?_
          refine wl_nil ?_
          refine ne_wt ?_
          refine wt_stepF rfl rfl (by kernel_rfl) ?_
          refine RS.cons ?_ (RS.nil)
          refine wl_storeTo 1 _ Tryz.hT rfl rfl rfl rfl rfl rfl rfl rfl rfl rfl (by show pre.length + (l.length - 1 - k) * 7 + 7 ≤ (pre ++ (cellsOf ((swG default l k).set k (l.getD (l.length - 1 - k) default)) ++ junk)).length; rw [List.length_append, List.length_append, cellsOf_length, List.length_set, swG_len]; omega) h2 ?_
          refine wl_nil ?_
          refine ne_wt ?_
          refine wt_doneF rfl (by kernel_rfl) ?_
          exact ne_late () ⟨rfl, rfl, rfl, trivial⟩ [0, 1] (by decide) rfl
      · refine wl_storeTo 1 _ Tryz.hT rfl rfl rfl rfl rfl rfl rfl rfl rfl rfl (by show pre.length + k * 7 + 7 ≤ (pre ++ (cellsOf (swG default l k) ++ junk)).length; rw [List.length_append, List.length_append, cellsOf_length, swG_len]; omega) h1 ?_
        refine wl_nil ?_
        refine ne_wt ?_
        refine wt_stepF rfl rfl (by kernel_rfl) ?_
        refine RS.cons ?_ (RS.cons ?_ (RS.nil))
        · refine wl_pure Tryz.hT rfl rfl rfl ?_
          refine wl_nil ?_
          refine ne_wt ?_
          refine wt_stepF rfl rfl (by kernel_rfl) ?_
          refine RS.cons ?_ (RS.nil)
          refine wl_pure Tryz.hT rfl rfl rfl ?_
          refine wl_nil ?_
          refine ne_wt ?_
          refine wt_stepF rfl rfl (by kernel_rfl) ?_
          refine RS.cons ?_ (RS.nil)
          refine wl_indexAddr Tryz.hT rfl rfl rfl rfl rfl rfl rfl (by omega) (by omega) ?_
          refine wl_nil ?_
          refine ne_wt ?_
          refine wt_stepF rfl rfl (by kernel_rfl) ?_
          refine RS.cons ?_ (RS.nil)
          refine wl_storeTo 1 _ Tryz.hT rfl rfl rfl rfl rfl rfl rfl rfl rfl rfl (by show pre.length + (l.length - 1 - k) * 7 + 7 ≤ (pre ++ (cellsOf ((swG default l k).set k (l.getD (l.length - 1 - k) default)) ++ junk)).length; rw [List.length_append, List.length_append, cellsOf_length, List.length_set, swG_len]; omega) h2 ?_
          refine wl_nil ?_
          refine ne_wt ?_
          refine wt_doneF rfl (by kernel_rfl) ?_
          exact ne_late () ⟨rfl, rfl, rfl, trivial⟩ [0, 1] (by decide) rfl
        · refine wl_pure Tryz.hT rfl rfl rfl ?_
          refine wl_nil ?_
          refine ne_wt ?_
          refine wt_stepF rfl rfl (by kernel_rfl) ?_
          refine RS.cons ?_ (RS.nil)
          refine wl_pure Tryz.hT rfl rfl rfl ?_
          refine wl_nil ?_
          refine ne_wt ?_
          refine wt_stepF rfl rfl (by kernel_rfl) ?_
          refine RS.cons ?_ (RS.nil)
          refine wl_indexAddr Tryz.hT rfl rfl rfl rfl rfl rfl rfl (by omega) (by omega) ?_
          refine wl_nil ?_
          refine ne_wt ?_
          refine wt_stepF rfl rfl (by kernel_rfl) ?_
          refine RS.cons ?_ (RS.nil)
          refine wl_storeTo 1 _ Tryz.hT rfl rfl rfl rfl rfl rfl rfl rfl rfl rfl (by show pre.length + (l.length - 1 - k) * 7 + 7 ≤ (pre ++ (cellsOf ((swG default l k).set k (l.getD (l.length - 1 - k) default)) ++ junk)).length; rw [List.length_append, List.length_append, cellsOf_length, List.length_set, swG_len]; omega) h2 ?_
          refine wl_nil ?_
          refine ne_wt ?_
          refine wt_doneF rfl (by kernel_rfl) ?_
          exact ne_late () ⟨rfl, rfl, rfl, trivial⟩ [0, 1] (by decide) rfl
    intro _
    refine zN ?_
    refine zE ?_
    refine zB ?_
    iterate 4 refine wl_pure Tryz.hT rfl rfl rfl ?_
    refine wl_upd 13 (.int .i64 ((l.length : Nat) - 1 - ((k + 1 : Nat) : Int))) rfl (congrArg (Value.int .i64) (show w64 (((l.length - 1 - k : Nat) : Int) - 1) = _ by rw [w64_id (by omega) (by omega)]; omega)) ?_
    iterate 2 refine wl_pure Tryz.hT rfl rfl rfl ?_
    refine wl_nil ?_
    exact ne_loop (k + 1) (by show 2 * (k + 1) ≤ l.length; omega) (by omega) ⟨rfl, congrArg (fun z => some (Value.int .i64 z)) (wrap_id (x := (k : Int) + 1) (by omega) (by omega)), rfl, trivial⟩ [] rfl
  refine key.mono ?_
  rintro e W' ⟨x, he, _, hb, hn'⟩
  exact ⟨x, he, trivial, near_of hg rfl hb hn'⟩
section
variable {r : Option Nat} {n : Nat} {W0 : World} {N : Nat} {D : List Deferred} {ops : List Oper} {Q : Exit → Act → World → Prop} {o : Oper} {rest : List Oper} {env : Env} {bxs : List Bx}
theorem wl_revside (k : Nat) (pre : List Value) (l : List Sd) (junk : List Value) (ys : List Value) {c : Call} {f : Operand} {d g cap off m : Nat} {xs : List Value}
    (hg : guardE ops N env o = some true) (hd : o.dst = some d) (ho : o.op = .call c) (hc : c.callee = .value f) (hf : evO N env f = some (.func (.func 31) #[] #[])) (ha : evArgs (evO N env) c.args.toList = some [.slice (some ⟨g, off, none⟩) m cap])
    (hk : nth bxs k = some ⟨g, 42, xs, true, none⟩) (hm : m = l.length) (hoff : off = pre.length) (hxs : xs = pre ++ (cellsOf l ++ junk)) (hys : pre ++ (cellsOf l.reverse ++ junk) = ys) (hn : l.length < 4611686018427387904)
    (h : WL r n Tryz.prog N D ops Q rest ((d, .tuple #[]) :: env) (Hp W0 (bxs.set k ⟨g, 42, ys, true, none⟩))) : WL r n Tryz.prog N D ops Q (o :: rest) env (Hp W0 bxs) := by
  subst hm; subst hxs; subst hys
  refine wl_callN (X := Unit) (val := fun _ => .tuple #[]) (Φ := fun _ => True) (capt := []) k (B := ⟨g, 42, pre ++ (cellsOf l ++ junk), true, none⟩) (L1 := []) (L2 := []) (b := g) (ob := .cells (pre ++ (cellsOf l ++ junk)).toArray 42 (0, 0)) (fun _ => ⟨g, 42, pre ++ (cellsOf l.reverse ++ junk), true, none⟩) (g' := fun _ => g) (o' := fun _ => .cells (pre ++ (cellsOf l.reverse ++ junk)).toArray 42 (0, 0))
    hg hd ho hc hf ha (by kernel_rfl) hk rfl (fun _ _ => rfl) (fun W hp => ?_) (fun _ _ => h)
  have hk' : bxs[k]? = some ⟨g, 42, pre ++ (cellsOf l ++ junk), true, none⟩ := by rw [← nth_eq]; exact hk
  exact revside_gives W g cap off pre junk l hoff hn (hp.own.cell k _ hk' (g, .cells (pre ++ (cellsOf l ++ junk)).toArray 42 (0, 0)) (List.mem_cons_self ..)).1
end
set_option maxHeartbeats 4000000 in
theorem revnum_gives (W : World) (g cap off : Nat) (pre junk : List Value) (l : List Int) (hoff : off = pre.length) (hn : l.length < 4611686018427387904) (hg : W.heap[g]? = some (.cells (pre ++ (ci l ++ junk)).toArray 3 (0, 0))) :
    Calls Tryz.prog 147 #[.slice (some ⟨g, off, none⟩) l.length cap] W fun e W' => ∃ x : Unit, e = .returned ((fun _ => .tuple #[]) x) ∧ True ∧ Near W W' g ((fun _ => g) x) ((fun _ => .cells (pre ++ (ci l.reverse ++ junk)).toArray 3 (0, 0)) x) := by
  subst hoff
  have key : Calls Tryz.prog 147 [.slice (some ⟨g, pre.length, none⟩) l.length cap].toArray W fun e W' => ∃ x : Unit, e = .returned ((fun _ => .tuple #[]) x) ∧ (fun _ => True) x ∧ Below (noHeap W).heap.size (noHeap W) W' ∧ NewBx (noHeap W) W' ((fun _ => [grpB (othersL W g), ⟨g, 3, pre ++ (ci l.reverse ++ junk), true, none⟩]) x) := by
    refine calls_enterT (X := Unit) (val := fun _ => .tuple #[]) (Φ := fun _ => True) (nb := fun _ => [grpB (othersL W g), ⟨g, 3, pre ++ (ci l.reverse ++ junk), true, none⟩]) (Hp.enterT (B := ⟨g, 3, pre ++ (ci l ++ junk), true, none⟩) rfl hg) Tryz.func147 rfl rfl rfl ?_
    refine zA ?_
    refine zB ?_
    iterate 3 refine wl_pure Tryz.hT rfl rfl rfl ?_
    refine wl_upd 6 (.int .i64 ((l.length : Nat) - 1 - (0 : Nat))) rfl (congrArg (Value.int .i64) (show w64 ((l.length : Nat) - 1) = _ by rw [w64_id (by omega) (by omega)]; omega)) ?_
    iterate 2 refine wl_pure Tryz.hT rfl rfl rfl ?_
    refine wl_nil ?_
    refine zE ?_
    refine zH ?_
    refine wc_loop (X := Nat) (fun k => [(0, .slice (some ⟨g, pre.length, none⟩) l.length cap), (2, .int .i64 (k : Nat)), (3, .int .i64 ((l.length : Nat) - 1 - (k : Nat)))]) (fun k => [grpB (othersL W g), ⟨g, 3, pre ++ (ci (swG 0 l k) ++ junk), true, none⟩])
      (fun k => 2 * k ≤ l.length) (fun k => l.length - k) 0 (Nat.zero_le _) ⟨rfl, rfl, rfl, trivial⟩ [] (by show _ = _ ++ []; rw [swG_zero]; rfl) ?_
    intro k hk
    iterate 2 refine zA ?_
    refine zB ?_
    iterate 3 refine wl_pure Tryz.hT rfl rfl rfl ?_
    refine wl_nil ?_
    refine zE ?_
    refine wc_cond rfl (fun h => ?_) (fun h => ?_)
    rotate_left
    · have hd : ¬ k < l.length - 1 - k := by
        have h' : decide ((k : Int) < (l.length : Nat) - 1 - (k : Nat)) = false := h
        rw [decide_eq_false_iff_not] at h'; omega
      rw [swG_done 0 hd]
      refine zJ ?_
      iterate 2 refine zK ?_
      refine zL ?_
      refine ne_end0 (X := Unit) (val := fun _ => .tuple #[]) (Φ := fun _ => True) (nb := fun _ => [grpB (othersL W g), ⟨g, 3, pre ++ (ci l.reverse ++ junk), true, none⟩]) (fn := Tryz.f147) Tryz.hT rfl () rfl trivial fun W1 hp => ?_
      exact (hp.pick (l := [grpB (othersL W g), ⟨g, 3, pre ++ (ci l.reverse ++ junk), true, none⟩]) [0, 1] (by decide) rfl).own
    have hd : k < l.length - 1 - k := by
      have h' : decide ((k : Int) < (l.length : Nat) - 1 - (k : Nat)) = true := h
      rw [decide_eq_true_iff] at h'; omega
    clear h
    have e3 : ((l.length : Nat) : Int) - 1 - (k : Nat) = ((l.length - 1 - k : Nat) : Int) := by omega
    have s1 : (swG 0 l k).getD (l.length - 1 - k) 0 = l.getD (l.length - 1 - k) 0 := by rw [swG_at 0 (by omega), if_neg (by omega)]
    have s2 : (swG 0 l k).getD k 0 = l.getD k 0 := by rw [swG_at 0 (by omega), if_neg (by omega)]
    refine zI ?_
    refine zE ?_
    refine wc_upd 3 (.int .i64 ((l.length - 1 - k : Nat) : Int)) rfl (congrArg (Value.int .i64) e3) ?_
    refine wc_seq ?_
    refine wc_block ?_
    repeat refine wc_seq ?_
    refine wc_lateY (X := Unit) [true, true, false, false, true, true, true, true, true, true, true, true, true, false, false, false] (fun _ => [(0, .slice (some ⟨g, pre.length, none⟩) l.length cap), (2, .int .i64 (k : Nat)), (3, .int .i64 ((l.length - 1 - k : Nat) : Int))]) (fun _ => [grpB (othersL W g), ⟨g, 3, pre ++ (ci (swG 0 l (k + 1)) ++ junk), true, none⟩])
      5 [grpB (othersL W g), ⟨g, 3, pre ++ (ci (swG 0 l k) ++ junk), true, none⟩] Tryz.mixed (by kernel_rfl) ?_ ?_
    · refine wq_pure Tryz.hT rfl rfl rfl ?_
      iterate 3 refine wq_pure Tryz.hT rfl rfl rfl ?_
      refine wq_indexAddr Tryz.hT rfl rfl rfl rfl rfl rfl rfl (by omega) (by omega) ?_
      refine wq_load rfl rfl rfl rfl (fun W hp => RowAt.load 0 Tryz.hT rfl ((fun W1 hp => show RowAt W1 g (pre.length + (l.length - 1 - k) * 1) [Value.int .i64 (l.getD (l.length - 1 - k) 0)] from by rw [← s1]; exact row_numO hp 1 rfl (by rw [swG_len]; omega)) W hp) rfl) ?_
      iterate 2 refine wq_pure Tryz.hT rfl rfl rfl ?_
      refine wq_indexAddr Tryz.hT rfl rfl rfl rfl rfl rfl rfl (by omega) (by omega) ?_
      refine wq_load rfl rfl rfl rfl (fun W hp => RowAt.load 0 Tryz.hT rfl ((fun W1 hp => show RowAt W1 g (pre.length + k * 1) [Value.int .i64 (l.getD (k) 0)] from by rw [← s2]; exact row_numO hp 1 rfl (by rw [swG_len]; omega)) W hp) rfl) ?_
      refine wq_indexAddr Tryz.hT rfl rfl rfl rfl rfl rfl rfl (by omega) (by omega) ?_
      refine wq_wt ?_
      have h1 : splice (pre ++ (ci (swG 0 l k) ++ junk)) (pre.length + k * 1) (Value.int .i64 (l.getD (l.length - 1 - k) 0)).cells.toList = pre ++ (ci ((swG 0 l k).set k (l.getD (l.length - 1 - k) 0)) ++ junk) := by
        rw [splice_right]; congr 1; exact set_num _ (by rw [swG_len]; omega)
      have h2 : splice (pre ++ (ci ((swG 0 l k).set k (l.getD (l.length - 1 - k) 0)) ++ junk)) (pre.length + (l.length - 1 - k) * 1) (Value.int .i64 (l.getD (k) 0)).cells.toList = pre ++ (ci (swG 0 l (k + 1)) ++ junk) := by
        rw [splice_right, swG_succ 0 hd]; congr 1; exact set_num _ (by rw [List.length_set, swG_len]; omega)
      refine wt_step rfl rfl (by ((repeat (first | refine Weak.same ?_ | refine Weak.off rfl ?_)); exact trivial)) ?_
      refine RS.cons ?_ (RS.cons ?_ (RS.cons ?_ (RS.nil)))
      · refine wl_pure Tryz.hT rfl rfl rfl ?_
        refine wl_nil ?_
        refine ne_wt ?_
        refine wt_step rfl rfl (by ((repeat (first | refine Weak.same ?_ | refine Weak.off rfl ?_)); exact trivial)) ?_
        refine RS.cons ?_ (RS.cons ?_ (RS.nil))
        · refine wl_pure Tryz.hT rfl rfl rfl ?_
          refine wl_nil ?_
          refine ne_wt ?_
          refine wt_step rfl rfl (by ((repeat (first | refine Weak.same ?_ | refine Weak.off rfl ?_)); exact trivial)) ?_
          refine RS.cons ?_ (RS.nil)
          refine wl_storeTo 1 _ Tryz.hT rfl rfl rfl rfl rfl rfl rfl rfl rfl rfl (by show pre.length + k * 1 + 1 ≤ (pre ++ (ci (swG 0 l k) ++ junk)).length; rw [List.length_append, List.length_append, ci_length, swG_len]; omega) h1 ?_
          refine wl_nil ?_
          refine ne_wt ?_
          refine wt_stepF rfl rfl (by kernel_rfl) ?_
          refine RS.cons ?_ (RS.nil)
          refine wl_indexAddr Tryz.hT rfl rfl rfl rfl rfl rfl rfl (by omega) (by omega) ?_
          refine wl_nil ?_
          refine ne_wt ?_
          refine wt_stepF rfl rfl (by kernel_rfl) ?_
          refine RS.cons ?_ (RS.nil)
          refine wl_storeTo 1 _ Tryz.hT rfl rfl rfl rfl rfl rfl rfl rfl rfl rfl (by show pre.length + (l.length - 1 - k) * 1 + 1 ≤ (pre ++ (ci ((swG 0 l k).set k (l.getD (l.length - 1 - k) 0)) ++ junk)).length; rw [List.length_append, List.length_append, ci_length, List.length_set, swG_len]; omega) h2 ?_
          refine wl_nil ?_
          refine ne_wt ?_
          refine wt_doneF rfl (by kernel_rfl) ?_
          exact ne_late () ⟨rfl, rfl, rfl, trivial⟩ [0, 1] (by decide) rfl
        · refine wl_storeTo 1 _ Tryz.hT rfl rfl rfl rfl rfl rfl rfl rfl rfl rfl (by show pre.length + k * 1 + 1 ≤ (pre ++ (ci (swG 0 l k) ++ junk)).length; rw [List.length_append, List.length_append, ci_length, swG_len]; omega) h1 ?_
          refine wl_nil ?_
          refine ne_wt ?_
          refine wt_stepF rfl rfl (by kernel_rfl) ?_
          refine RS.cons ?_ (RS.nil)
          refine wl_pure Tryz.hT rfl rfl rfl ?_
          refine wl_nil ?_
          refine ne_wt ?_
          refine wt_stepF rfl rfl (by kernel_rfl) ?_
          refine RS.cons ?_ (RS.nil)
          refine wl_indexAddr Tryz.hT rfl rfl rfl rfl rfl rfl rfl (by omega) (by omega) ?_
          refine wl_nil ?_
          refine ne_wt ?_
          refine wt_stepF rfl rfl (by kernel_rfl) ?_
          refine RS.cons ?_ (RS.nil)
          refine wl_storeTo 1 _ Tryz.hT rfl rfl rfl rfl rfl rfl rfl rfl rfl rfl (by show pre.length + (l.length - 1 - k) * 1 + 1 ≤ (pre ++ (ci ((swG 0 l k).set k (l.getD (l.length - 1 - k) 0)) ++ junk)).length; rw [List.length_append, List.length_append, ci_length, List.length_set, swG_len]; omega) h2 ?_
          refine wl_nil ?_
          refine ne_wt ?_
          refine wt_doneF rfl (by kernel_rfl) ?_
          exact ne_late () ⟨rfl, rfl, rfl, trivial⟩ [0, 1] (by decide) rfl
      · refine wl_pure Tryz.hT rfl rfl rfl ?_
        refine wl_nil ?_
        refine ne_wt ?_
        refine wt_step rfl rfl (by ((repeat (first | refine Weak.same ?_ | refine Weak.off rfl ?_)); exact trivial)) ?_
        refine RS.cons ?_ (RS.cons ?_ (RS.nil))
        · refine wl_pure Tryz.hT rfl rfl rfl ?_
          refine wl_nil ?_
          refine ne_wt ?_
          refine wt_step rfl rfl (by ((repeat (first | refine Weak.same ?_ | refine Weak.off rfl ?_)); exact trivial)) ?_
          refine RS.cons ?_ (RS.nil)
          refine wl_storeTo 1 _ Tryz.hT rfl rfl rfl rfl rfl rfl rfl rfl rfl rfl (by show pre.length + k * 1 + 1 ≤ (pre ++ (ci (swG 0 l k) ++ junk)).length; rw [List.length_append, List.length_append, ci_length, swG_len]; omega) h1 ?_
          refine wl_nil ?_
          refine ne_wt ?_
          refine wt_stepF rfl rfl (by kernel_rfl) ?_
          refine RS.cons ?_ (RS.nil)
          refine wl_indexAddr Tryz.hT rfl rfl rfl rfl rfl rfl rfl (by omega) (by omega) ?_
          refine wl_nil ?_
          refine ne_wt ?_
          refine wt_stepF rfl rfl (by kernel_rfl) ?_
          refine RS.cons ?_ (RS.nil)
          refine wl_storeTo 1 _ Tryz.hT rfl rfl rfl rfl rfl rfl rfl rfl rfl rfl (by show pre.length + (l.length - 1 - k) * 1 + 1 ≤ (pre ++ (ci ((swG 0 l k).set k (l.getD (l.length - 1 - k) 0)) ++ junk)).length; rw [List.length_append, List.length_append, ci_length, List.length_set, swG_len]; omega) h2 ?_
          refine wl_nil ?_
          refine ne_wt ?_
          refine wt_doneF rfl (by kernel_rfl) ?_
          exact ne_late () ⟨rfl, rfl, rfl, trivial⟩ [0, 1] (by decide) rfl
        · refine wl_storeTo 1 _ Tryz.hT rfl rfl rfl rfl rfl rfl rfl rfl rfl rfl (by show pre.length + k * 1 + 1 ≤ (pre ++ (ci (swG 0 l k) ++ junk)).length; rw [List.length_append, List.length_append, ci_length, swG_len]; omega) h1 ?_
          refine wl_nil ?_
          refine ne_wt ?_
          refine wt_stepF rfl rfl (by kernel_rfl) ?_
          refine RS.cons ?_ (RS.nil)
          refine wl_pure Tryz.hT rfl rfl rfl ?_
          refine wl_nil ?_
          refine ne_wt ?_
          refine wt_stepF rfl rfl (by kernel_rfl) ?_
          refine RS.cons ?_ (RS.nil)
          refine wl_indexAddr Tryz.hT rfl rfl rfl rfl rfl rfl rfl (by omega) (by omega) ?_
          refine wl_nil ?_
          refine ne_wt ?_
          refine wt_stepF rfl rfl (by kernel_rfl) ?_
          refine RS.cons ?_ (RS.nil)
          refine wl_storeTo 1 _ Tryz.hT rfl rfl rfl rfl rfl rfl rfl rfl rfl rfl (by show pre.length + (l.length - 1 - k) * 1 + 1 ≤ (pre ++ (ci ((swG 0 l k).set k (l.getD (l.length - 1 - k) 0)) ++ junk)).length; rw [List.length_append, List.length_append, ci_length, List.length_set, swG_len]; omega) h2 ?_
          refine wl_nil ?_
          refine ne_wt ?_
          refine wt_doneF rfl (by kernel_rfl) ?_
          exact ne_late () ⟨rfl, rfl, rfl, trivial⟩ [0, 1] (by decide) rfl
      · refine wl_storeTo 1 _ Tryz.hT rfl rfl rfl rfl rfl rfl rfl rfl rfl rfl (by show pre.length + k * 1 + 1 ≤ (pre ++ (ci (swG 0 l k) ++ junk)).length; rw [List.length_append, List.length_append, ci_length, swG_len]; omega) h1 ?_
        refine wl_nil ?_
        refine ne_wt ?_
        refine wt_stepF rfl rfl (by kernel_rfl) ?_
        refine RS.cons ?_ (RS.cons ?_ (RS.nil))
        · refine wl_pure Tryz.hT rfl rfl rfl ?_
          refine wl_nil ?_
          refine ne_wt ?_
          refine wt_stepF rfl rfl (by kernel_rfl) ?_
          refine RS.cons ?_ (RS.nil)
          refine wl_pure Tryz.hT rfl rfl rfl ?_
          refine wl_nil ?_
          refine ne_wt ?_
          refine wt_stepF rfl rfl (by kernel_rfl) ?_
          refine RS.cons ?_ (RS.nil)
          refine wl_indexAddr Tryz.hT rfl rfl rfl rfl rfl rfl rfl (by omega) (by omega) ?_
          refine wl_nil ?_
          refine ne_wt ?_
          refine wt_stepF rfl rfl (by kernel_rfl) ?_
          refine RS.cons ?_ (RS.nil)
          refine wl_storeTo 1 _ Tryz.hT rfl rfl rfl rfl rfl rfl rfl rfl rfl rfl (by show pre.length + (l.length - 1 - k) * 1 + 1 ≤ (pre ++ (ci ((swG 0 l k).set k (l.getD (l.length - 1 - k) 0)) ++ junk)).length; rw [List.length_append, List.length_append, ci_length, List.length_set, swG_len]; omega) h2 ?_
          refine wl_nil ?_
          refine ne_wt ?_
          refine wt_doneF rfl (by kernel_rfl) ?_
          exact ne_late () ⟨rfl, rfl, rfl, trivial⟩ [0, 1] (by decide) rfl
        · refine wl_pure Tryz.hT rfl rfl rfl ?_
          refine wl_nil ?_
          refine ne_wt ?_
          refine wt_stepF rfl rfl (by kernel_rfl) ?_
          refine RS.cons ?_ (RS.nil)
          refine wl_pure Tryz.hT rfl rfl rfl ?_
          refine wl_nil ?_
          refine ne_wt ?_
          refine wt_stepF rfl rfl (by kernel_rfl) ?_
          refine RS.cons ?_ (RS.nil)
          refine wl_indexAddr Tryz.hT rfl rfl rfl rfl rfl rfl rfl (by omega) (by omega) ?_
          refine wl_nil ?_
          refine ne_wt ?_
          refine wt_stepF rfl rfl (by kernel_rfl) ?_
          refine RS.cons ?_ (RS.nil)
          refine wl_storeTo 1 _ Tryz.hT rfl rfl rfl rfl rfl rfl rfl rfl rfl rfl (by show pre.length + (l.length - 1 - k) * 1 + 1 ≤ (pre ++ (ci ((swG 0 l k).set k (l.getD (l.length - 1 - k) 0)) ++ junk)).length; rw [List.length_append, List.length_append, ci_length, List.length_set, swG_len]; omega) h2 ?_
          refine wl_nil ?_
          refine ne_wt ?_
          refine wt_doneF rfl (by kernel_rfl) ?_
          exact ne_late () ⟨rfl, rfl, rfl, trivial⟩ [0, 1] (by decide) rfl
    intro _
    refine zN ?_
    refine zE ?_
    refine zB ?_
    iterate 4 refine wl_pure Tryz.hT rfl rfl rfl ?_
    refine wl_upd 13 (.int .i64 ((l.length : Nat) - 1 - ((k + 1 : Nat) : Int))) rfl (congrArg (Value.int .i64) (show w64 (((l.length - 1 - k : Nat) : Int) - 1) = _ by rw [w64_id (by omega) (by omega)]; omega)) ?_
    iterate 2 refine wl_pure Tryz.hT rfl rfl rfl ?_
    refine wl_nil ?_
    exact ne_loop (k + 1) (by show 2 * (k + 1) ≤ l.length; omega) (by omega) ⟨rfl, congrArg (fun z => some (Value.int .i64 z)) (wrap_id (x := (k : Int) + 1) (by omega) (by omega)), rfl, trivial⟩ [] rfl
  refine key.mono ?_
  rintro e W' ⟨x, he, _, hb, hn'⟩
  exact ⟨x, he, trivial, near_of hg rfl hb hn'⟩
section
variable {r : Option Nat} {n : Nat} {W0 : World} {N : Nat} {D : List Deferred} {ops : List Oper} {Q : Exit → Act → World → Prop} {o : Oper} {rest : List Oper} {env : Env} {bxs : List Bx}
theorem wl_revnum (k : Nat) (pre : List Value) (l : List Int) (junk : List Value) (ys : List Value) {c : Call} {f : Operand} {d g cap off m : Nat} {xs : List Value}
    (hg : guardE ops N env o = some true) (hd : o.dst = some d) (ho : o.op = .call c) (hc : c.callee = .value f) (hf : evO N env f = some (.func (.func 147) #[] #[])) (ha : evArgs (evO N env) c.args.toList = some [.slice (some ⟨g, off, none⟩) m cap])
    (hk : nth bxs k = some ⟨g, 3, xs, true, none⟩) (hm : m = l.length) (hoff : off = pre.length) (hxs : xs = pre ++ (ci l ++ junk)) (hys : pre ++ (ci l.reverse ++ junk) = ys) (hn : l.length < 4611686018427387904)
    (h : WL r n Tryz.prog N D ops Q rest ((d, .tuple #[]) :: env) (Hp W0 (bxs.set k ⟨g, 3, ys, true, none⟩))) : WL r n Tryz.prog N D ops Q (o :: rest) env (Hp W0 bxs) := by
  subst hm; subst hxs; subst hys
  refine wl_callN (X := Unit) (val := fun _ => .tuple #[]) (Φ := fun _ => True) (capt := []) k (B := ⟨g, 3, pre ++ (ci l ++ junk), true, none⟩) (L1 := []) (L2 := []) (b := g) (ob := .cells (pre ++ (ci l ++ junk)).toArray 3 (0, 0)) (fun _ => ⟨g, 3, pre ++ (ci l.reverse ++ junk), true, none⟩) (g' := fun _ => g) (o' := fun _ => .cells (pre ++ (ci l.reverse ++ junk)).toArray 3 (0, 0))
    hg hd ho hc hf ha (by kernel_rfl) hk rfl (fun _ _ => rfl) (fun W hp => ?_) (fun _ _ => h)
  have hk' : bxs[k]? = some ⟨g, 3, pre ++ (ci l ++ junk), true, none⟩ := by rw [← nth_eq]; exact hk
  exact revnum_gives W g cap off pre junk l hoff hn (hp.own.cell k _ hk' (g, .cells (pre ++ (ci l ++ junk)).toArray 3 (0, 0)) (List.mem_cons_self ..)).1
end
theorem cloneI_gives (W : World) (b off cap : Nat) (l : List Int) (hn : l.length < 1099511627776) (hR : RowAt W b off (ci l)) (hne : l ≠ []) :
    CallsR Tryz.prog 146 #[.slice (some ⟨b, off, none⟩) l.length cap] W (fun V : Vec => V.val l.length) (fun V => V.OK 1 l.length (ci l) ∧ V.p ≠ none) (fun V => [V.bx 3 (ci l)]) := by
  refine calls_enter (args := [.slice (some ⟨b, off, none⟩) l.length cap]) Tryz.func146 rfl rfl rfl ?_
  refine zA ?_
  refine zB ?_
  refine wl_pure Tryz.hT rfl rfl rfl ?_
  refine wl_nil ?_
  refine zE ?_
  iterate 2 refine zA ?_
  refine zB ?_
  refine wl_pure Tryz.hT rfl rfl rfl ?_
  refine wl_nilEq Tryz.hT rfl rfl rfl rfl rfl rfl rfl ?_
  refine zC ?_
  refine zE ?_
  refine zS rfl ?_
  refine zI ?_
  refine zE ?_
  refine zA ?_
  refine zB ?_
  refine wl_buildEmpty Tryz.hT rfl rfl rfl rfl rfl ?_
  intro g
  refine wl_pure Tryz.hT rfl rfl rfl ?_
  refine wl_append (len := 0) (V := ⟨some g, 0, []⟩) (xs := []) 0 Tryz.vec60 rfl rfl rfl rfl rfl rfl rfl rfl rfl ⟨rfl, (fun h => by cases h), fun _ => ⟨Nat.le_refl _, Nat.zero_le _, rfl⟩⟩ (ci_length l) (fun W hp j u hj => ?_) (ci_one _) (by simp only [maxLen]; omega) (by omega) ?_
  · rw [Addr.add_none]
    exact (hR.hp hp).get j u hj
  intro V hV hp0
  refine wl_pure Tryz.hT rfl rfl rfl ?_
  refine wl_nil ?_
  refine zE ?_
  refine zO ?_
  have e0 : 0 + l.length = l.length := Nat.zero_add _
  rw [e0, List.nil_append] at hV
  exact ne_ret1 Tryz.hT rfl (.tmp rfl) V (by rw [e0]) ⟨hV, fun h => hne (List.length_eq_zero_iff.1 (hp0 h))⟩ fun W hp => NewBx.of_hp1 hp 0 rfl
set_option maxHeartbeats 4000000 in
theorem rotside_gives (W : World) (p : Option Addr) (cap : Nat) (l : List Sd) (k : Nat) (hk : k < l.length) (hn : l.length < 1099511627776) (hR : RingP W p l) :
    CallsR Tryz.prog 91 #[.slice p l.length cap, .int .i64 (k : Nat)] W (fun V : Vec => V.val l.length) (fun V => V.OK 7 l.length (cellsOf (rot l k)) ∧ V.p ≠ none) (fun V => [V.bx 42 (cellsOf (rot l k))]) := by
  have hne : l ≠ [] := fun h => by subst h; exact absurd hk (Nat.not_lt_zero _)
  refine calls_enter (args := [.slice p l.length cap, .int .i64 (k : Nat)]) Tryz.func91 rfl rfl rfl ?_
  refine zA ?_
  refine zB ?_
  refine wl_pure Tryz.hT rfl rfl rfl ?_
  refine wl_nil ?_
  refine zE ?_
  refine zA ?_
  refine zB ?_
  refine wl_pure Tryz.hT rfl rfl rfl ?_
  refine wl_call (X := Vec) rfl rfl rfl rfl rfl rfl (by kernel_rfl) (fun W hp => clone_gives W p cap l hn (hR.hp hp) hne) ?_
  rintro U0 ⟨hU0, hUp⟩
  obtain ⟨pU, capU, junk⟩ := U0
  cases pU with
  | none => exact absurd rfl hUp
  | some gU =>
  obtain ⟨hc0, hc1, hc2⟩ := hU0.cap (by simp)
  have hc0 : l.length ≤ capU := hc0
  have hc2 : (cellsOf l).length + junk.length = capU * 7 := hc2
  have et : (l.take k).length = k := by rw [List.length_take]; omega
  have e1 : cellsOf l ++ junk = [] ++ (cellsOf (l.take k) ++ (cellsOf (l.drop k) ++ junk)) := by
    rw [List.nil_append, ← List.append_assoc, ← cellsOf_append, List.take_append_drop]
  have e2 : [] ++ (cellsOf (l.take k).reverse ++ (cellsOf (l.drop k) ++ junk)) = cellsOf (l.take k).reverse ++ (cellsOf (l.drop k) ++ junk) := List.nil_append _
  have e3 : cellsOf (l.take k).reverse ++ (cellsOf (l.drop k).reverse ++ junk) = [] ++ (cellsOf (rot l k).reverse ++ junk) := by
    rw [List.nil_append, ← List.append_assoc, ← cellsOf_append, rot, List.reverse_append]
  have e4 : [] ++ (cellsOf (rot l k).reverse.reverse ++ junk) = cellsOf (rot l k) ++ junk := by rw [List.nil_append, List.reverse_reverse]
  refine wl_pure Tryz.hT rfl rfl rfl ?_
  refine wl_nil ?_
  refine zE ?_
  refine zA ?_
  refine zB ?_
  iterate 2 refine wl_pure Tryz.hT rfl rfl rfl ?_
  refine wl_slice_h k Tryz.hT rfl rfl rfl rfl rfl rfl rfl rfl (by omega) ?_
  refine wl_revside 0 [] (l.take k) (cellsOf (l.drop k) ++ junk) _ rfl rfl rfl rfl rfl rfl rfl et.symm rfl e1 e2 (by rw [et]; omega) ?_
  refine zC ?_
  refine zE ?_
  refine zA ?_
  refine zB ?_
  iterate 2 refine wl_pure Tryz.hT rfl rfl rfl ?_
  refine wl_slice_l k Tryz.hT rfl rfl rfl rfl rfl rfl rfl rfl (by omega) hc0 ?_
  refine wl_revside 0 (cellsOf (l.take k).reverse) (l.drop k) junk _ rfl rfl rfl rfl rfl rfl rfl (by rw [List.length_drop]) (by rw [if_neg (by omega), cellsOf_length, List.length_reverse, et]; exact Nat.zero_add _) rfl e3 (by rw [List.length_drop]; omega) ?_
  refine zC ?_
  refine zE ?_
  refine zA ?_
  refine zB ?_
  refine wl_pure Tryz.hT rfl rfl rfl ?_
  refine wl_revside 0 [] (rot l k).reverse junk _ rfl rfl rfl rfl rfl rfl rfl (by rw [List.length_reverse, rot_len]) rfl rfl e4 (by rw [List.length_reverse, rot_len]; omega) ?_
  refine zC ?_
  refine zE ?_
  refine zA ?_
  refine zB ?_
  iterate 2 refine wl_pure Tryz.hT rfl rfl rfl ?_
  refine wl_nil ?_
  refine zE ?_
  refine zO ?_
  refine ne_ret1 Tryz.hT rfl (.tmp rfl) ⟨some gU, capU, junk⟩ rfl ⟨⟨by rw [cellsOf_length, rot_len], (fun h => by cases h), fun _ => ⟨hc0, hc1, ?_⟩⟩, hUp⟩ fun W hp => NewBx.of_hp1 hp 0 rfl
  show (cellsOf (rot l k)).length + junk.length = capU * 7
  rw [← hc2, cellsOf_length, cellsOf_length, rot_len]
set_option maxHeartbeats 4000000 in
theorem rotnum_gives (W : World) (b off : Nat) (cap : Nat) (l : List Int) (k : Nat) (hk : k < l.length) (hn : l.length < 1099511627776) (hR : RowAt W b off (ci l)) :
    CallsR Tryz.prog 92 #[.slice (some ⟨b, off, none⟩) l.length cap, .int .i64 (k : Nat)] W (fun V : Vec => V.val l.length) (fun V => V.OK 1 l.length (ci (rot l k)) ∧ V.p ≠ none) (fun V => [V.bx 3 (ci (rot l k))]) := by
  have hne : l ≠ [] := fun h => by subst h; exact absurd hk (Nat.not_lt_zero _)
  refine calls_enter (args := [.slice (some ⟨b, off, none⟩) l.length cap, .int .i64 (k : Nat)]) Tryz.func92 rfl rfl rfl ?_
  refine zA ?_
  refine zB ?_
  refine wl_pure Tryz.hT rfl rfl rfl ?_
  refine wl_nil ?_
  refine zE ?_
  refine zA ?_
  refine zB ?_
  refine wl_pure Tryz.hT rfl rfl rfl ?_
  refine wl_call (X := Vec) rfl rfl rfl rfl rfl rfl (by kernel_rfl) (fun W hp => cloneI_gives W b off cap l hn (hR.hp hp) hne) ?_
  rintro U0 ⟨hU0, hUp⟩
  obtain ⟨pU, capU, junk⟩ := U0
  cases pU with
  | none => exact absurd rfl hUp
  | some gU =>
  obtain ⟨hc0, hc1, hc2⟩ := hU0.cap (by simp)
  have hc0 : l.length ≤ capU := hc0
  have hc2 : (ci l).length + junk.length = capU * 1 := hc2
  have et : (l.take k).length = k := by rw [List.length_take]; omega
  have e1 : ci l ++ junk = [] ++ (ci (l.take k) ++ (ci (l.drop k) ++ junk)) := by
    rw [List.nil_append, ← List.append_assoc, ← ci_append, List.take_append_drop]
  have e2 : [] ++ (ci (l.take k).reverse ++ (ci (l.drop k) ++ junk)) = ci (l.take k).reverse ++ (ci (l.drop k) ++ junk) := List.nil_append _
  have e3 : ci (l.take k).reverse ++ (ci (l.drop k).reverse ++ junk) = [] ++ (ci (rot l k).reverse ++ junk) := by
    rw [List.nil_append, ← List.append_assoc, ← ci_append, rot, List.reverse_append]
  have e4 : [] ++ (ci (rot l k).reverse.reverse ++ junk) = ci (rot l k) ++ junk := by rw [List.nil_append, List.reverse_reverse]
  refine wl_pure Tryz.hT rfl rfl rfl ?_
  refine wl_nil ?_
  refine zE ?_
  refine zA ?_
  refine zB ?_
  iterate 2 refine wl_pure Tryz.hT rfl rfl rfl ?_
  refine wl_slice_h k Tryz.hT rfl rfl rfl rfl rfl rfl rfl rfl (by omega) ?_
  refine wl_revnum 0 [] (l.take k) (ci (l.drop k) ++ junk) _ rfl rfl rfl rfl rfl rfl rfl et.symm rfl e1 e2 (by rw [et]; omega) ?_
  refine zC ?_
  refine zE ?_
  refine zA ?_
  refine zB ?_
  iterate 2 refine wl_pure Tryz.hT rfl rfl rfl ?_
  refine wl_slice_l k Tryz.hT rfl rfl rfl rfl rfl rfl rfl rfl (by omega) hc0 ?_
  refine wl_revnum 0 (ci (l.take k).reverse) (l.drop k) junk _ rfl rfl rfl rfl rfl rfl rfl (by rw [List.length_drop]) (by rw [if_neg (by omega), ci_length, List.length_reverse, et]; exact Nat.zero_add _) rfl e3 (by rw [List.length_drop]; omega) ?_
  refine zC ?_
  refine zE ?_
  refine zA ?_
  refine zB ?_
  refine wl_pure Tryz.hT rfl rfl rfl ?_
  refine wl_revnum 0 [] (rot l k).reverse junk _ rfl rfl rfl rfl rfl rfl rfl (by rw [List.length_reverse, rot_len]) rfl rfl e4 (by rw [List.length_reverse, rot_len]; omega) ?_
  refine zC ?_
  refine zE ?_
  refine zA ?_
  refine zB ?_
  iterate 2 refine wl_pure Tryz.hT rfl rfl rfl ?_
  refine wl_nil ?_
  refine zE ?_
  refine zO ?_
  refine ne_ret1 Tryz.hT rfl (.tmp rfl) ⟨some gU, capU, junk⟩ rfl ⟨⟨by rw [ci_length, rot_len], (fun h => by cases h), fun _ => ⟨hc0, hc1, ?_⟩⟩, hUp⟩ fun W hp => NewBx.of_hp1 hp 0 rfl
  show (ci (rot l k)).length + junk.length = capU * 1
  rw [← hc2, ci_length, ci_length, rot_len]
end Go.Proofs.YtnpfkmbcejgnjaaGreatDoor
namespace Go.Proofs.YtnpfkmbcejgnjaaGreatDoor
open Go Go.RowKit Go.Am
set_option maxRecDepth 10000
-- BOXES 3
theorem isNaN_gives (a : Int) : Gives Tryz.prog 170 [.int .i64 a] (.bool false) := by
  intro W
  refine calls_enter (args := [.int .i64 a]) Tryz.func170 rfl rfl rfl ?_
  refine zA ?_
  refine zB ?_
  refine wl_pure Tryz.hT rfl rfl rfl ?_
  refine wl_nil ?_
  refine zE ?_
  refine zA ?_
  refine zB ?_
  iterate 3 refine wl_pure Tryz.hT rfl rfl rfl ?_
  refine wl_upd 5 (.bool false) rfl (congrArg Value.bool (show (a != a) = false by simp)) ?_
  refine wl_pure Tryz.hT rfl rfl rfl ?_
  refine wl_nil ?_
  refine zE ?_
  refine zO ?_
  exact ne_ret1 Tryz.hT rfl (.tmp rfl) () rfl trivial fun W _ => NewBx.nil _ _
theorem compareI_gives (a b : Int) : Gives Tryz.prog 145 [.int .i64 a, .int .i64 b] (.int .i64 (cmpI a b)) := by
  intro W
  refine calls_enter (args := [.int .i64 a, .int .i64 b]) Tryz.func145 rfl rfl rfl ?_
  refine zA ?_
  refine zB ?_
  refine wl_pure Tryz.hT rfl rfl rfl ?_
  refine wl_nil ?_
  refine zE ?_
  refine zA ?_
  refine zB ?_
  refine wl_pure Tryz.hT rfl rfl rfl ?_
  refine wl_call1 rfl rfl rfl rfl rfl rfl (by kernel_rfl) (fun W _ => isNaN_gives a W) ?_
  refine wl_pure Tryz.hT rfl rfl rfl ?_
  refine wl_nil ?_
  refine zE ?_
  refine zA ?_
  refine zB ?_
  refine wl_pure Tryz.hT rfl rfl rfl ?_
  refine wl_call1 rfl rfl rfl rfl rfl rfl (by kernel_rfl) (fun W _ => isNaN_gives b W) ?_
  refine wl_pure Tryz.hT rfl rfl rfl ?_
  refine wl_nil ?_
  refine zE ?_
  iterate 2 refine zA ?_
  refine zB ?_
  refine wl_pure Tryz.hT rfl rfl rfl ?_
  refine wl_nil ?_
  refine zE ?_
  refine zS rfl ?_
  refine zI ?_
  refine zE ?_
  iterate 2 refine zA ?_
  refine zB ?_
  refine wl_pure Tryz.hT rfl rfl rfl ?_
  refine wl_nil ?_
  refine zE ?_
  refine zS rfl ?_
  refine zI ?_
  refine zE ?_
  iterate 2 refine zA ?_
  refine zB ?_
  iterate 3 refine wl_pure Tryz.hT rfl rfl rfl ?_
  refine wl_nil ?_
  refine zE ?_
  refine wc_cond rfl (fun h => ?_) (fun h => ?_)
  · have h' : a < b := by have h2 : decide (a < b) = true := h; simpa using h2
    have e : cmpI a b = -1 := by unfold cmpI; rw [if_pos h']
    refine zA ?_
    refine zB ?_
    refine wl_pure Tryz.hT rfl rfl rfl ?_
    refine wl_nil ?_
    refine zE ?_
    refine zO ?_
    refine zP ?_
    exact ne_ret1 Tryz.hT rfl (.tmp rfl) () (by rw [e]) trivial fun W _ => NewBx.nil _ _
  have h1 : ¬ a < b := by have h2 : decide (a < b) = false := h; simpa using h2
  clear h
  refine zI ?_
  refine zE ?_
  iterate 2 refine zA ?_
  refine zB ?_
  iterate 3 refine wl_pure Tryz.hT rfl rfl rfl ?_
  refine wl_nil ?_
  refine zE ?_
  refine wc_cond rfl (fun h => ?_) (fun h => ?_)
  · have h' : a > b := by have h2 : decide (a > b) = true := h; simpa using h2
    have e : cmpI a b = 1 := by unfold cmpI; rw [if_neg h1, if_pos h']
    refine zA ?_
    refine zB ?_
    refine wl_pure Tryz.hT rfl rfl rfl ?_
    refine wl_nil ?_
    refine zE ?_
    refine zO ?_
    refine zP ?_
    exact ne_ret1 Tryz.hT rfl (.tmp rfl) () (by rw [e]) trivial fun W _ => NewBx.nil _ _
  have h2 : ¬ a > b := by have h2 : decide (a > b) = false := h; simpa using h2
  have e : cmpI a b = 0 := by unfold cmpI; rw [if_neg h1, if_neg h2]
  refine zI ?_
  refine zE ?_
  refine zA ?_
  refine zB ?_
  refine wl_pure Tryz.hT rfl rfl rfl ?_
  refine wl_nil ?_
  refine zE ?_
  refine zO ?_
  exact ne_ret1 Tryz.hT rfl (.tmp rfl) () (by rw [e]) trivial fun W _ => NewBx.nil _ _
theorem or_gives (W : World) (g : Nat) (a b : Int) (h : RowAt W g 0 [.int .i64 a, .int .i64 b]) :
    CallsR Tryz.prog 144 #[.slice (some ⟨g, 0, none⟩) 2 2] W (fun _ : Unit => .int .i64 (if a ≠ 0 then a else b)) (fun _ => True) (fun _ => []) := by
  refine calls_enter (args := [.slice (some ⟨g, 0, none⟩) 2 2]) Tryz.func144 rfl rfl rfl ?_
  have h0 : RowAt W g (0 + 0 * 1) [.int .i64 a] := ⟨h.lt, fun j u hu => h.get j u (by cases j with | zero => exact hu | succ j => cases hu)⟩
  have h1 : RowAt W g (0 + 1 * 1) [.int .i64 b] := ⟨h.lt, fun j u hu => by
    cases j with
    | zero => exact h.get 1 u hu
    | succ j => cases hu⟩
  refine zA ?_
  refine zB ?_
  refine wl_pure Tryz.hT rfl rfl rfl ?_
  refine wl_nil ?_
  refine zE ?_
  refine zA ?_
  refine zB ?_
  refine wl_pure Tryz.hT rfl rfl rfl ?_
  refine wl_nil ?_
  refine zE ?_
  iterate 2 refine zA ?_
  refine zB ?_
  iterate 3 refine wl_pure Tryz.hT rfl rfl rfl ?_
  refine wl_nil ?_
  refine zE ?_
  refine zH ?_
  refine wc_loop (X := Nat) (fun k => [(3, .int .i64 0), (6, .slice (some ⟨g, 0, none⟩) 2 2), (7, .int .i64 2), (8, .int .i64 (k : Nat))]) (fun _ => []) (fun k => k ≤ 2 ∧ (0 < k → a = 0) ∧ (1 < k → b = 0)) (fun k => 2 - k) 0 ⟨by omega, fun h => absurd h (by omega), fun h => absurd h (by omega)⟩ ⟨rfl, rfl, rfl, rfl, trivial⟩ [] rfl ?_
  rintro k ⟨hk, ha, hb⟩
  refine zA ?_
  refine zB ?_
  refine wl_pure Tryz.hT rfl rfl rfl ?_
  refine wl_nil ?_
  refine zE ?_
  refine zA ?_
  refine wc_cond rfl (fun h => ?_) (fun h => ?_)
  rotate_left
  · have e : k = 2 := by have h' : decide ((k : Int) < 2) = false := h; rw [decide_eq_false_iff_not] at h'; omega
    refine zJ ?_
    iterate 2 refine zK ?_
    refine zL ?_
    refine zE ?_
    refine zA ?_
    refine zB ?_
    iterate 2 refine wl_pure Tryz.hT rfl rfl rfl ?_
    refine wl_nil ?_
    refine zE ?_
    refine zO ?_
    exact ne_ret1 Tryz.hT rfl (.tmp rfl) () (by rw [if_neg (fun h => h (ha (by omega))), hb (by omega)]) trivial fun W _ => NewBx.nil _ _
  have hk : k < 2 := by have h' : decide ((k : Int) < 2) = true := h; rw [decide_eq_true_iff] at h'; omega
  clear h
  rcases (show k = 0 ∨ k = 1 by omega) with rfl | rfl
  · refine zI ?_
    refine zE ?_
    refine zA ?_
    refine zH ?_
    refine zA ?_
    refine zB ?_
    refine wl_indexAddr Tryz.hT rfl rfl rfl rfl rfl rfl rfl (by omega) (by omega) ?_
    refine wl_load rfl rfl rfl rfl (fun W hp => RowAt.load 0 Tryz.hT rfl ((fun W hp => h0.hp hp) W hp) rfl) ?_
    refine wl_pure Tryz.hT rfl rfl rfl ?_
    refine wl_nil ?_
    refine zE ?_
    refine zA ?_
    refine zB ?_
    iterate 3 refine wl_pure Tryz.hT rfl rfl rfl ?_
    refine wl_nil ?_
    refine zE ?_
    refine wc_cond rfl (fun hx => ?_) (fun hx => ?_)
    · have hx : a ≠ 0 := by have h' : (a != 0) = true := hx; simpa using h'
      refine zA ?_
      refine zB ?_
      iterate 2 refine wl_pure Tryz.hT rfl rfl rfl ?_
      refine wl_nil ?_
      refine zE ?_
      refine zO ?_
      refine zQ ?_
      iterate 2 refine zP ?_
      refine zQ ?_
      refine zP ?_
      exact ne_ret1 Tryz.hT rfl (.tmp rfl) () (by rw [if_pos hx]) trivial fun W _ => NewBx.nil _ _
    · have hx : a = 0 := by have h' : (a != 0) = false := hx; simpa using h'
      refine zI ?_
      refine zN ?_
      refine zE ?_
      refine zB ?_
      iterate 2 refine wl_pure Tryz.hT rfl rfl rfl ?_
      refine wl_nil ?_
      exact ne_loop 1 ⟨by omega, fun _ => hx, fun h => absurd h (by omega)⟩ (by omega) ⟨rfl, rfl, rfl, rfl, trivial⟩ [] rfl
  · refine zI ?_
    refine zE ?_
    refine zA ?_
    refine zH ?_
    refine zA ?_
    refine zB ?_
    refine wl_indexAddr Tryz.hT rfl rfl rfl rfl rfl rfl rfl (by omega) (by omega) ?_
    refine wl_load rfl rfl rfl rfl (fun W hp => RowAt.load 0 Tryz.hT rfl ((fun W hp => h1.hp hp) W hp) rfl) ?_
    refine wl_pure Tryz.hT rfl rfl rfl ?_
    refine wl_nil ?_
    refine zE ?_
    refine zA ?_
    refine zB ?_
    iterate 3 refine wl_pure Tryz.hT rfl rfl rfl ?_
    refine wl_nil ?_
    refine zE ?_
    refine wc_cond rfl (fun hx => ?_) (fun hx => ?_)
    · refine zA ?_
      refine zB ?_
      iterate 2 refine wl_pure Tryz.hT rfl rfl rfl ?_
      refine wl_nil ?_
      refine zE ?_
      refine zO ?_
      refine zQ ?_
      iterate 2 refine zP ?_
      refine zQ ?_
      refine zP ?_
      exact ne_ret1 Tryz.hT rfl (.tmp rfl) () (by rw [if_neg (fun h => h (ha (by omega)))]) trivial fun W _ => NewBx.nil _ _
    · have hx : b = 0 := by have h' : (b != 0) = false := hx; simpa using h'
      refine zI ?_
      refine zN ?_
      refine zE ?_
      refine zB ?_
      iterate 2 refine wl_pure Tryz.hT rfl rfl rfl ?_
      refine wl_nil ?_
      exact ne_loop 2 ⟨by omega, fun _ => ha (by omega), fun _ => hx⟩ (by omega) ⟨rfl, rfl, rfl, rfl, trivial⟩ [] rfl
theorem compare_gives (a b : Sd) : Gives Tryz.prog 89 [a.val, b.val] (.int .i64 (cmpS a b)) := by
  intro W
  refine calls_enter (args := [a.val, b.val]) Tryz.func89 rfl rfl rfl ?_
  refine zA ?_
  refine zB ?_
  (refine wl_box rfl rfl rfl rfl ?_; intro)
  (refine wl_box rfl rfl rfl rfl ?_; intro)
  refine wl_pure Tryz.hT rfl rfl rfl ?_
  refine wl_nil ?_
  rename_i b2 b3
  refine zE ?_
  refine zA ?_
  refine zT Tryz.mixed (by kernel_rfl) ?_
  refine wq_pure Tryz.hT rfl rfl rfl ?_
  refine wq_loadBx 0 Tryz.hT rfl rfl rfl rfl rfl rfl rfl rfl ?_
  refine wq_pure Tryz.hT rfl rfl rfl ?_
  refine wq_loadBx 1 Tryz.hT rfl rfl rfl rfl rfl rfl rfl rfl ?_
  refine wq_call1 rfl rfl rfl rfl rfl rfl (by kernel_rfl) (fun W _ => compareI_gives a.x b.x W) ?_
  refine wq_pure Tryz.hT rfl rfl rfl ?_
  refine wq_loadBx 0 Tryz.hT rfl rfl rfl rfl rfl rfl rfl rfl ?_
  refine wq_pure Tryz.hT rfl rfl rfl ?_
  refine wq_loadBx 1 Tryz.hT rfl rfl rfl rfl rfl rfl rfl rfl ?_
  refine wq_call1 rfl rfl rfl rfl rfl rfl (by kernel_rfl) (fun W _ => compareI_gives a.y b.y W) ?_
  refine wq_nil ?_
  (refine wl_buildRowZ Tryz.hZ Tryz.hT rfl rfl rfl rfl rfl rfl rfl rfl rfl rfl rfl ?_; intro)
  rename_i b15
  refine wl_call1 rfl rfl rfl rfl rfl rfl (by kernel_rfl) (fun W hp => or_gives W b15 (cmpI a.x b.x) (cmpI a.y b.y) (RowAt.of_bx hp 2 rfl rfl)) ?_
  refine wl_pure Tryz.hT rfl rfl rfl ?_
  refine wl_nil ?_
  refine zE ?_
  refine zO ?_
  exact ne_ret1 Tryz.hT rfl (.tmp rfl) () (rfl) trivial fun W _ => NewBx.nil _ _
set_option maxHeartbeats 4000000 in
theorem minFunc_gives (W : World) (p : Option Addr) (cap : Nat) (l : List Sd) (h0 : 0 < l.length) (hn : l.length < 4611686018427387904) (hR : RingP W p l) :
    CallsR Tryz.prog 90 #[slv p l.length cap, .func (.func 89) #[] #[]] W (fun _ : Unit => (sd l (atS l)).val) (fun _ => True) (fun _ => []) := by
  obtain ⟨bq, oq, rfl, hrq⟩ := hR.row h0
  refine calls_enter (args := [slv (some ⟨bq, oq, none⟩) l.length cap, .func (.func 89) #[] #[]]) Tryz.func90 rfl rfl rfl ?_
  refine zA ?_
  refine zB ?_
  (refine wl_allocZ Tryz.hZ rfl rfl rfl rfl ?_; intro)
  refine wl_nil ?_
  rename_i b4
  refine zE ?_
  iterate 2 refine zA ?_
  refine zB ?_
  iterate 3 refine wl_pure Tryz.hT rfl rfl rfl ?_
  refine wl_nil ?_
  refine zE ?_
  refine wc_cond rfl (fun h => ?_) (fun h => ?_)
  · have h' : decide (((l.length : Nat) : Int) < 1) = true := h
    rw [decide_eq_true_iff] at h'; omega
  clear h
  refine zI ?_
  refine zE ?_
  refine zA ?_
  refine zB ?_
  refine wl_pure Tryz.hT rfl rfl rfl ?_
  refine wl_indexAddr Tryz.hT rfl rfl rfl rfl rfl rfl rfl (by omega) (by omega) ?_
  refine wl_load rfl rfl rfl rfl (fun W hp => RowAt.load 0 Tryz.hT rfl ((fun W hp => (hrq 0 h0).hp hp) W hp) rfl) ?_
  (refine wl_allocZ Tryz.hZ rfl rfl rfl rfl ?_; intro)
  refine wl_storeBx 1 Tryz.hT rfl rfl rfl rfl rfl rfl rfl rfl rfl rfl rfl ?_
  refine wl_nil ?_
  rename_i b5
  refine zE ?_
  iterate 2 refine zA ?_
  refine zB ?_
  refine wl_pure Tryz.hT rfl rfl rfl ?_
  refine wl_nil ?_
  refine zE ?_
  refine zH ?_
  refine wc_loop (X := Nat) (fun k => [(0, slv (some ⟨bq, oq, none⟩) l.length cap), (1, .func (.func 89) #[] #[]), (4, .pointer (some ⟨b4, 0, none⟩)), (5, .pointer (some ⟨b5, 0, none⟩)), (6, .int .i64 ((k + 1 : Nat) : Int))]) (fun k => [⟨b4, 42, (default : Sd).cells, true, none⟩, ⟨b5, 42, (sd l (atUp l k)).cells, true, none⟩])
    (fun k => k < l.length) (fun k => l.length - k) 0 h0 ⟨rfl, rfl, rfl, rfl, rfl, trivial⟩ [] rfl ?_
  intro k hk
  iterate 2 refine zA ?_
  refine zB ?_
  iterate 4 refine wl_pure Tryz.hT rfl rfl rfl ?_
  refine wl_nil ?_
  refine zE ?_
  refine wc_cond rfl (fun h => ?_) (fun h => ?_)
  rotate_left
  · have e : k = l.length - 1 := by have h' : decide (((k + 1 : Nat) : Int) < (l.length : Nat)) = false := h; rw [decide_eq_false_iff_not] at h'; omega
    subst e
    refine zJ ?_
    iterate 2 refine zK ?_
    refine zL ?_
    refine zE ?_
    refine zA ?_
    refine zB ?_
    refine wl_loadBx 1 Tryz.hT rfl rfl rfl rfl rfl rfl rfl rfl ?_
    refine wl_storeBx 0 Tryz.hT rfl rfl rfl rfl rfl rfl rfl rfl rfl rfl rfl ?_
    refine wl_nil ?_
    refine zE ?_
    refine zO ?_
    exact ne_ret1 Tryz.hT rfl (.cell 0 rfl rfl rfl rfl rfl) () rfl trivial fun W _ => NewBx.nil _ _
  have hk1 : k + 1 < l.length := by have h' : decide (((k + 1 : Nat) : Int) < (l.length : Nat)) = true := h; rw [decide_eq_true_iff] at h'; omega
  clear h
  have eup : atUp l (k + 1) = if cmpS (sd l (k + 1)) (sd l (atUp l k)) < 0 then k + 1 else atUp l k := rfl
  refine zI ?_
  refine zE ?_
  refine zA ?_
  refine zH ?_
  refine zA ?_
  refine zT Tryz.mixed (by kernel_rfl) ?_
  iterate 3 refine wq_pure Tryz.hT rfl rfl rfl ?_
  refine wq_indexAddr Tryz.hT rfl rfl rfl rfl rfl rfl rfl (by omega) (by omega) ?_
  refine wq_load rfl rfl rfl rfl (fun W hp => RowAt.load 0 Tryz.hT rfl ((fun W hp => (hrq _ hk1).hp hp) W hp) rfl) ?_
  refine wq_loadBx 1 Tryz.hT rfl rfl rfl rfl rfl rfl rfl rfl ?_
  refine wq_call1 (capt := []) rfl rfl rfl rfl rfl rfl (by kernel_rfl) (fun W _ => compare_gives (sd l (k + 1)) (sd l (atUp l k)) W) ?_
  refine wq_pure Tryz.hT rfl rfl rfl ?_
  refine wq_nil ?_
  refine wl_nil ?_
  refine zE ?_
  refine wc_cond rfl (fun hx => ?_) (fun hx => ?_)
  · have hx : cmpS (sd l (k + 1)) (sd l (atUp l k)) < 0 := by have h' : decide (cmpS (sd l (k + 1)) (sd l (atUp l k)) < 0) = true := hx; simpa using h'
    rw [if_pos hx] at eup
    refine zB ?_
    iterate 2 refine wl_pure Tryz.hT rfl rfl rfl ?_
    refine wl_indexAddr Tryz.hT rfl rfl rfl rfl rfl rfl rfl (by omega) (by omega) ?_
    refine wl_load rfl rfl rfl rfl (fun W hp => RowAt.load 0 Tryz.hT rfl ((fun W hp => (hrq _ hk1).hp hp) W hp) rfl) ?_
    refine wl_storeBx 1 Tryz.hT rfl rfl rfl rfl rfl rfl rfl rfl rfl rfl rfl ?_
    refine wl_nil ?_
    refine zN ?_
    refine zE ?_
    refine zB ?_
    iterate 3 refine wl_pure Tryz.hT rfl rfl rfl ?_
    refine wl_nil ?_
    exact ne_loop (k + 1) hk1 (by omega) ⟨rfl, rfl, rfl, rfl, congrArg (fun z => some (Value.int .i64 z)) (wrap_id (x := ((k + 1 : Nat) : Int) + 1) (by omega) (by omega)), trivial⟩ [] (by show _ = [_, (⟨b5, 42, (sd l (atUp l (k + 1))).cells, true, none⟩ : Bx)] ++ []; rw [eup]; rfl)
  · have hx : ¬ cmpS (sd l (k + 1)) (sd l (atUp l k)) < 0 := by have h' : decide (cmpS (sd l (k + 1)) (sd l (atUp l k)) < 0) = false := hx; simpa using h'
    rw [if_neg hx] at eup
    refine zI ?_
    refine zN ?_
    refine zE ?_
    refine zB ?_
    iterate 3 refine wl_pure Tryz.hT rfl rfl rfl ?_
    refine wl_nil ?_
    exact ne_loop (k + 1) hk1 (by omega) ⟨rfl, rfl, rfl, rfl, congrArg (fun z => some (Value.int .i64 z)) (wrap_id (x := ((k + 1 : Nat) : Int) + 1) (by omega) (by omega)), trivial⟩ [] (by show _ = [_, (⟨b5, 42, (sd l (atUp l (k + 1))).cells, true, none⟩ : Bx)] ++ []; rw [eup]; rfl)
end Go.Proofs.YtnpfkmbcejgnjaaGreatDoor
namespace Go.Proofs.YtnpfkmbcejgnjaaGreatDoor
open Go Go.RowKit Go.Am
set_option maxRecDepth 10000
-- BOXES 3
/-- Is this the least corner of the ring? -/
def isAt (l : List Sd) (s : Sd) : Bool := decide (cmpS s (sd l (atS l)) = 0)
theorem canon1_gives (W : World) (b : Nat) (p : Option Addr) (cap : Nat) (l : List Sd) (h0 : 0 < l.length) (hn : l.length < 4611686018427387904) (hb : RowAt W b 0 [slv p l.length cap]) (hR : RingP W p l) (s : Sd) :
    CallsR Tryz.prog 88 #[s.val, .pointer (some ⟨b, 0, none⟩)] W (fun _ : Unit => .bool (isAt l s)) (fun _ => True) (fun _ => []) := by
  refine calls_enter (args := [s.val, .pointer (some ⟨b, 0, none⟩)]) Tryz.func88 rfl rfl rfl ?_
  refine zA ?_
  refine zB ?_
  (refine wl_box rfl rfl rfl rfl ?_; intro)
  refine wl_pure Tryz.hT rfl rfl rfl ?_
  refine wl_nil ?_
  rename_i b2
  refine zE ?_
  refine zA ?_
  refine zT Tryz.mixed (by kernel_rfl) ?_
  refine wq_loadBx 0 Tryz.hT rfl rfl rfl rfl rfl rfl rfl rfl ?_
  refine wq_load rfl rfl rfl rfl (fun W hp => RowAt.load 0 Tryz.hT rfl ((fun W hp => hb.hp hp) W hp) rfl) ?_
  refine wq_call1 (capt := []) rfl rfl rfl rfl rfl rfl (by kernel_rfl) (fun W hp => minFunc_gives W p cap l h0 hn (hR.hp hp)) ?_
  refine wq_call1 (capt := []) rfl rfl rfl rfl rfl rfl (by kernel_rfl) (fun W _ => compare_gives s (sd l (atS l)) W) ?_
  iterate 2 refine wq_pure Tryz.hT rfl rfl rfl ?_
  refine wq_nil ?_
  refine wl_nil ?_
  refine zE ?_
  refine zO ?_
  exact ne_ret1 Tryz.hT rfl (.tmp rfl) () (rfl) trivial fun W _ => NewBx.nil _ _
theorem indexC_gives (g : Nat) (hE : entersB Tryz.prog g = true) (capt : List Value) (f : Sd → Bool) (W : World) (p : Option Addr) (cap : Nat) (l : List Sd) (hn : l.length < 4611686018427387904) (hR : RingP W p l)
    (hf : ∀ W', Below W.heap.size W W' → ∀ s, CallsR Tryz.prog g ([s.val] ++ capt).toArray W' (fun _ : Unit => .bool (f s)) (fun _ => True) (fun _ => [])) :
    CallsR Tryz.prog 87 #[slv p l.length cap, .func (.func g) #[] capt.toArray] W (fun _ : Unit => .int .i64 (idxF f l 0)) (fun _ => True) (fun _ => []) := by
  refine calls_enter (args := [slv p l.length cap, .func (.func g) #[] capt.toArray]) Tryz.func87 rfl rfl rfl ?_
  refine zA ?_
  refine zB ?_
  refine wl_pure Tryz.hT rfl rfl rfl ?_
  refine wl_nil ?_
  refine zE ?_
  iterate 2 refine zA ?_
  refine zB ?_
  iterate 3 refine wl_pure Tryz.hT rfl rfl rfl ?_
  refine wl_nil ?_
  refine zE ?_
  refine zH ?_
  refine wc_loop (X := Nat) (fun k => [(0, slv p l.length cap), (1, .func (.func g) #[] capt.toArray), (7, .int .i64 (l.length : Nat)), (8, .int .i64 (k : Nat))]) (fun _ => [])
    (fun k => k ≤ l.length ∧ idxF f l 0 = idxF f (l.drop k) k) (fun k => l.length - k) 0 ⟨Nat.zero_le _, rfl⟩ ⟨rfl, rfl, rfl, rfl, trivial⟩ [] rfl ?_
  rintro k ⟨hk, hi⟩
  refine zA ?_
  refine zB ?_
  refine wl_pure Tryz.hT rfl rfl rfl ?_
  refine wl_nil ?_
  refine zE ?_
  refine zA ?_
  refine wc_cond rfl (fun h => ?_) (fun h => ?_)
  rotate_left
  · refine zJ ?_
    iterate 2 refine zK ?_
    refine zL ?_
    refine zE ?_
    refine zA ?_
    refine zB ?_
    refine wl_pure Tryz.hT rfl rfl rfl ?_
    refine wl_nil ?_
    refine zE ?_
    refine zO ?_
    have e : k = l.length := by simp at h; omega
    rw [e, List.drop_length] at hi
    exact ne_ret1 Tryz.hT rfl (.tmp rfl) () (by rw [hi]; rfl) trivial fun W _ => NewBx.nil _ _
  · have hk : k < l.length := by simp at h; omega
    clear h
    obtain ⟨b, off, rfl, hrow⟩ := hR.row hk
    refine zI ?_
    refine zE ?_
    refine zA ?_
    refine zH ?_
    refine zA ?_
    refine zB ?_
    iterate 2 refine wl_pure Tryz.hT rfl rfl rfl ?_
    refine wl_nil ?_
    refine zE ?_
    refine zA ?_
    refine zB ?_
    iterate 3 refine wl_pure Tryz.hT rfl rfl rfl ?_
    refine wl_indexAddr Tryz.hT rfl rfl rfl rfl rfl rfl rfl (by omega) (by omega) ?_
    refine wl_load rfl rfl rfl rfl (fun W hp => RowAt.load 0 Tryz.hT rfl ((fun W hp => (hrow k hk).hp hp) W hp) rfl) ?_
    refine wl_call1 (g := g) (capt := capt) (v := .bool (f (sd l k))) rfl rfl rfl rfl rfl rfl hE (fun W' hp => hf W' hp.below (sd l k)) ?_
    have hd : l.drop k = sd l k :: l.drop (k + 1) := by
      rw [List.drop_eq_getElem_cons hk]; simp [sd, hk]
    have hstep : idxF f (l.drop k) k = if f (sd l k) = true then (k : Int) else idxF f (l.drop (k + 1)) (k + 1) := by rw [hd]; rfl
    rw [hstep] at hi
    refine zC ?_
    refine zE ?_
    refine wc_cond rfl (fun h => ?_) (fun h => ?_)
    · refine zA ?_
      refine zB ?_
      iterate 2 refine wl_pure Tryz.hT rfl rfl rfl ?_
      refine wl_nil ?_
      refine zE ?_
      refine zO ?_
      refine zQ ?_
      iterate 2 refine zP ?_
      refine zQ ?_
      refine zP ?_
      rw [if_pos h] at hi
      exact ne_ret1 Tryz.hT rfl (.tmp rfl) () (by rw [hi]) trivial fun W _ => NewBx.nil _ _
    · refine zI ?_
      refine zN ?_
      refine zE ?_
      refine zB ?_
      iterate 2 refine wl_pure Tryz.hT rfl rfl rfl ?_
      refine wl_nil ?_
      rw [if_neg (by rw [h]; decide)] at hi
      exact ne_loop (k + 1) ⟨hk, hi⟩ (by omega) ⟨rfl, rfl, rfl, congrArg (fun z => some (Value.int .i64 z)) (wrap_id (x := (k : Int) + 1) (by omega) (by omega)), trivial⟩ [] rfl
theorem idxF_at {f : Sd → Bool} {l : List Sd} {i : Nat} (hi : i < l.length) (h1 : f (sd l i) = true) (h0 : ∀ j, j < i → f (sd l j) = false) : idxF f l 0 = (i : Int) := by
  have key : ∀ k, k ≤ i → idxF f l 0 = idxF f (l.drop k) k := fun k => by
    induction k with
    | zero => intro _; rfl
    | succ k ih =>
      intro hk
      rw [ih (by omega), List.drop_eq_getElem_cons (show k < l.length by omega)]
      have h2 := h0 k (by omega)
      have e : l[k]'(by omega) = sd l k := by simp [sd, show k < l.length by omega]
      rw [e]
      show (if f (sd l k) = true then (k : Int) else _) = _
      rw [if_neg (by rw [h2]; decide)]
  rw [key i (Nat.le_refl _), List.drop_eq_getElem_cons hi]
  have e : l[i] = sd l i := by simp [sd, hi]
  rw [e]
  show (if f (sd l i) = true then (i : Int) else _) = _
  rw [if_pos h1]
/-- .. it is found where it is. -/
theorem isAt_idx {l : List Sd} (hd : Dist l) (h0 : 0 < l.length) : idxF (isAt l) l 0 = (atS l : Int) := by
  have hm := ex_min hd h0
  refine idxF_at hm.1 (decide_eq_true (cmpS_zero.2 ⟨rfl, rfl⟩)) fun j hj => ?_
  refine decide_eq_false fun h => ?_
  have hlt := hm.1
  have h1 := cmpS_neg.1 (hm.2 j (by omega) (by omega))
  have h2 := cmpS_zero.1 h
  omega
end Go.Proofs.YtnpfkmbcejgnjaaGreatDoor
namespace Go.Proofs.YtnpfkmbcejgnjaaGreatDoor
open Go Go.RowKit Go.Am
set_option maxRecDepth 10000
-- BOXES 3
theorem canon2_gives (W : World) (pa pb qa qb : Option Addr) (ca cb na nb cna cnb : Nat) (la lb : List Sd) (ha0 : 0 < la.length) (hb0 : 0 < lb.length) (hRa : RingP W pa la) (hRb : RingP W pb lb) :
    CallsR Tryz.prog 94 #[.agg #[slv pa la.length ca, .slice qa na cna], .agg #[slv pb lb.length cb, .slice qb nb cnb]] W (fun _ : Unit => .int .i64 (cmpS (sd la 0) (sd lb 0))) (fun _ => True) (fun _ => []) := by
  obtain ⟨b, off, rfl, hra⟩ := hRa.row ha0
  obtain ⟨b', off', rfl, hrb⟩ := hRb.row hb0
  refine calls_enter (args := [.agg #[slv (some ⟨b, off, none⟩) la.length ca, .slice qa na cna], .agg #[slv (some ⟨b', off', none⟩) lb.length cb, .slice qb nb cnb]]) Tryz.func94 rfl rfl rfl ?_
  refine zA ?_
  refine zB ?_
  (refine wl_box rfl rfl rfl rfl ?_; intro)
  (refine wl_box rfl rfl rfl rfl ?_; intro)
  refine wl_pure Tryz.hT rfl rfl rfl ?_
  refine wl_nil ?_
  refine zE ?_
  refine zA ?_
  refine zT Tryz.mixed (by kernel_rfl) ?_
  refine wq_pure Tryz.hT rfl rfl rfl ?_
  refine wq_loadBx 0 Tryz.hT rfl rfl rfl rfl rfl rfl rfl rfl ?_
  refine wq_indexAddr Tryz.hT rfl rfl rfl rfl rfl rfl rfl (by omega) (by omega) ?_
  refine wq_load rfl rfl rfl rfl (fun W hp => RowAt.load 0 Tryz.hT rfl ((fun W hp => (hra 0 ha0).hp hp) W hp) rfl) ?_
  refine wq_pure Tryz.hT rfl rfl rfl ?_
  refine wq_loadBx 1 Tryz.hT rfl rfl rfl rfl rfl rfl rfl rfl ?_
  refine wq_indexAddr Tryz.hT rfl rfl rfl rfl rfl rfl rfl (by omega) (by omega) ?_
  refine wq_load rfl rfl rfl rfl (fun W hp => RowAt.load 0 Tryz.hT rfl ((fun W hp => (hrb 0 hb0).hp hp) W hp) rfl) ?_
  refine wq_call1 (capt := []) rfl rfl rfl rfl rfl rfl (by kernel_rfl) (fun W _ => compare_gives (sd la 0) (sd lb 0) W) ?_
  refine wq_pure Tryz.hT rfl rfl rfl ?_
  refine wq_nil ?_
  refine wl_nil ?_
  refine zE ?_
  refine zO ?_
  exact ne_ret1 Tryz.hT rfl (.tmp rfl) () (rfl) trivial fun W _ => NewBx.nil _ _
theorem row_pt {W0 W : World} {bxs : List Bx} (hp : Hp W0 bxs W) (k : Nat) {g : Nat} {e : TypeId} {xs A B C : List Value} {off : Nat} (hk : nth bxs k = some ⟨g, e, xs, true, none⟩) (hxs : xs = A ++ (B ++ C)) (hoff : off = A.length) : RowAt W g off B := by
  have h := RowAt.of_bx hp k hk rfl
  refine ⟨h.lt, fun m u hu => ?_⟩
  have := h.get (A.length + m) u (by
    show xs[A.length + m]? = some u
    rw [hxs, List.getElem?_append_right (by omega), Nat.add_sub_cancel_left, List.getElem?_append_left (List.getElem?_eq_some_iff.1 hu).1]
    exact hu)
  rw [Nat.zero_add, ← hoff] at this
  exact this
/-- Nothing to be sorted. -/
theorem ins1_gives (W : World) (p : Option Addr) (n cap : Nat) (hn : n ≤ 1) : CallsR Tryz.prog 181 #[.slice p n cap, .int .i64 0, .int .i64 (n : Nat), .func (.func 94) #[] #[]] W (fun _ : Unit => .tuple #[]) (fun _ => True) (fun _ => []) := by
  refine calls_enter (args := [.slice p n cap, .int .i64 0, .int .i64 (n : Nat), .func (.func 94) #[] #[]]) Tryz.func181 rfl rfl rfl ?_
  refine zA ?_
  refine zB ?_
  iterate 3 refine wl_pure Tryz.hT rfl rfl rfl ?_
  refine wl_nil ?_
  refine zE ?_
  refine zH ?_
  refine wc_loop (X := Unit) (fun _ => [(0, .slice p n cap), (1, .int .i64 0), (2, .int .i64 (n : Nat)), (3, .func (.func 94) #[] #[]), (8, .int .i64 1)]) (fun _ => []) (fun _ => True) (fun _ => 0) () trivial ⟨rfl, rfl, rfl, rfl, rfl, trivial⟩ [] rfl ?_
  intro _ _
  iterate 2 refine zA ?_
  refine zB ?_
  iterate 3 refine wl_pure Tryz.hT rfl rfl rfl ?_
  refine wl_nil ?_
  refine zE ?_
  refine wc_cond rfl (fun h => ?_) (fun h => ?_)
  · have h' : decide ((1 : Int) < (n : Nat)) = true := h
    rw [decide_eq_true_iff] at h'; omega
  refine zJ ?_
  iterate 2 refine zK ?_
  refine zL ?_
  exact ne_end0 (X := Unit) (val := fun _ => .tuple #[]) (Φ := fun _ => True) (nb := fun _ => []) (fn := Tryz.f181) Tryz.hT rfl () rfl trivial fun W _ => NewBx.nil _ _
/-- All blocks of W but one are as they were. -/
structure Keep (W W' : World) (g : Nat) : Prop where
  size : W.heap.size ≤ W'.heap.size
  at_ : ∀ x, x ≠ g → x < W.heap.size → W'.heap[x]? = W.heap[x]?
theorem keep_of {W W' : World} {g : Nat} {B : Bx} {o : Obj} (hg : W.heap[g]? = some o) (hB : ∃ o', (g, o') ∈ B.blk) (hp : Hp (noHeap W) [grpB (othersL W g), B] W') : Keep W W' g := by
  have c0 : ∀ p ∈ othersL W g, W'.heap[p.1]? = some p.2 := fun p hq => (hp.own.cell 0 _ rfl p hq).1
  have old : ∀ x, x ≠ g → x < W.heap.size → W'.heap[x]? = W.heap[x]? := fun x hx hlt => by
    have h1 : W.heap[x]? = some W.heap[x] := Array.getElem?_eq_getElem hlt
    rw [h1]
    exact c0 (x, W.heap[x]) (mem_others.2 ⟨hx, h1⟩)
  refine ⟨?_, old⟩
  have hlt := (Array.getElem?_eq_some_iff.1 hg).1
  by_cases e : W.heap.size - 1 = g
  · obtain ⟨o', ho⟩ := hB
    have := (Array.getElem?_eq_some_iff.1 (hp.own.cell 1 B rfl _ ho).1).1
    have h2 : g < W'.heap.size := this
    omega
  · have h1 := old (W.heap.size - 1) e (by omega)
    rw [Array.getElem?_eq_getElem (show W.heap.size - 1 < W.heap.size by omega)] at h1
    have := (Array.getElem?_eq_some_iff.1 h1).1
    omega
theorem Keep.trans {W W1 W2 : World} {g : Nat} (h : Keep W W1 g) (h' : Keep W1 W2 g) : Keep W W2 g :=
  ⟨Nat.le_trans h.size h'.size, fun x hx hlt => (h'.at_ x hx (Nat.lt_of_lt_of_le hlt h.size)).trans (h.at_ x hx hlt)⟩
theorem ringP_keep {W W' : World} {g : Nat} {p : Option Addr} {l : List Sd} (h : RingP W p l) (hk : Keep W W' g) (hne : ∀ b off, p = some ⟨b, off, none⟩ → b ≠ g) : RingP W' p l := by
  rcases h with h | ⟨b, off, h1, h2⟩
  · exact .inl h
  · refine .inr ⟨b, off, h1, ⟨fun i s hs => ?_⟩⟩
    have h3 := h2.get i s hs
    refine ⟨Nat.lt_of_lt_of_le h3.lt hk.size, fun j x hx => ?_⟩
    have h4 := h3.get j x hx
    unfold World.cell? at h4 ⊢
    rw [hk.at_ b (hne b off h1) h3.lt]
    exact h4
/-- Two values in order. -/
def ord2 (c : Int) (A B : List Value) : List Value := if c < 0 then B ++ A else A ++ B
set_option maxHeartbeats 4000000 in
theorem ins2_gives (W : World) (g off cap : Nat) (pre junk : List Value) (p1 p2 q1 q2 : Option Addr) (m1 m2 n1 n2 c1 c2 d1 d2 : Nat) (c : Int) (hoff : off = pre.length) (hg : W.heap[g]? = some (.cells (pre ++ ([slv p1 m1 c1, slv p2 m2 c2, slv q1 n1 d1, slv q2 n2 d2] ++ junk)).toArray 119 (0, 0)))
    (hf : ∀ W', Keep W W' g → CallsR Tryz.prog 94 #[.agg #[slv q1 n1 d1, slv q2 n2 d2], .agg #[slv p1 m1 c1, slv p2 m2 c2]] W' (fun _ : Unit => .int .i64 c) (fun _ => True) (fun _ => [])) :
    Calls Tryz.prog 181 #[.slice (some ⟨g, off, none⟩) 2 cap, .int .i64 0, .int .i64 2, .func (.func 94) #[] #[]] W fun e W' => ∃ x : Unit, e = .returned ((fun _ => .tuple #[]) x) ∧ True ∧ Near W W' g ((fun _ => g) x) ((fun _ => .cells (pre ++ (ord2 c [slv p1 m1 c1, slv p2 m2 c2] [slv q1 n1 d1, slv q2 n2 d2] ++ junk)).toArray 119 (0, 0)) x) := by
  subst hoff
  have key : Calls Tryz.prog 181 [.slice (some ⟨g, pre.length, none⟩) 2 cap, .int .i64 0, .int .i64 2, .func (.func 94) #[] #[]].toArray W fun e W' => ∃ x : Unit, e = .returned ((fun _ => .tuple #[]) x) ∧ (fun _ => True) x ∧ Below (noHeap W).heap.size (noHeap W) W' ∧ NewBx (noHeap W) W' ((fun _ => [grpB (othersL W g), ⟨g, 119, pre ++ (ord2 c [slv p1 m1 c1, slv p2 m2 c2] [(slv q1 n1 d1), (slv q2 n2 d2)] ++ junk), true, none⟩]) x) := by
    refine calls_enterT (X := Unit) (val := fun _ => .tuple #[]) (Φ := fun _ => True) (nb := fun _ => [grpB (othersL W g), ⟨g, 119, pre ++ (ord2 c [slv p1 m1 c1, slv p2 m2 c2] [(slv q1 n1 d1), (slv q2 n2 d2)] ++ junk), true, none⟩]) (Hp.enterT (B := ⟨g, 119, pre ++ ([(slv p1 m1 c1), (slv p2 m2 c2), (slv q1 n1 d1), (slv q2 n2 d2)] ++ junk), true, none⟩) rfl hg) Tryz.func181 rfl rfl rfl ?_
    refine zA ?_
    refine zB ?_
    iterate 3 refine wl_pure Tryz.hT rfl rfl rfl ?_
    refine wl_nil ?_
    refine zE ?_
    refine zH ?_
    refine wc_loop (X := Bool) (fun k => [(0, .slice (some ⟨g, pre.length, none⟩) 2 cap), (1, .int .i64 0), (2, .int .i64 2), (3, .func (.func 94) #[] #[]), (8, .int .i64 (match k with | true => 1 | false => 2))]) (fun k => [grpB (othersL W g), ⟨g, 119, pre ++ ((match k with | true => [(slv p1 m1 c1), (slv p2 m2 c2), (slv q1 n1 d1), (slv q2 n2 d2)] | false => ord2 c [slv p1 m1 c1, slv p2 m2 c2] [(slv q1 n1 d1), (slv q2 n2 d2)]) ++ junk), true, none⟩])
      (fun _ => True) (fun k => match k with | true => 1 | false => 0) true trivial ⟨rfl, rfl, rfl, rfl, rfl, trivial⟩ [] rfl ?_
    rintro (_ | _) _
    · refine zA ?_
      refine zA ?_
      refine zB ?_
      iterate 3 refine wl_pure Tryz.hT rfl rfl rfl ?_
      refine wl_nil ?_
      refine zE ?_
      refine zS rfl ?_
      refine zJ ?_
      iterate 2 refine zK ?_
      refine zL ?_
      refine ne_end0 (X := Unit) (val := fun _ => .tuple #[]) (Φ := fun _ => True) (nb := fun _ => [grpB (othersL W g), ⟨g, 119, pre ++ (ord2 c [slv p1 m1 c1, slv p2 m2 c2] [(slv q1 n1 d1), (slv q2 n2 d2)] ++ junk), true, none⟩]) (fn := Tryz.f181) Tryz.hT rfl () rfl trivial fun W1 hp => ?_
      exact (hp.pick (l := [grpB (othersL W g), ⟨g, 119, pre ++ (ord2 c [slv p1 m1 c1, slv p2 m2 c2] [(slv q1 n1 d1), (slv q2 n2 d2)] ++ junk), true, none⟩]) [0, 1] (by decide) rfl).own
    iterate 2 refine zA ?_
    refine zB ?_
    iterate 3 refine wl_pure Tryz.hT rfl rfl rfl ?_
    refine wl_nil ?_
    refine zE ?_
    refine zR rfl ?_
    refine zI ?_
    refine zE ?_
    refine zA ?_
    refine zH ?_
    refine zA ?_
    refine zB ?_
    iterate 2 refine wl_pure Tryz.hT rfl rfl rfl ?_
    refine wl_nil ?_
    refine zE ?_
    refine zH ?_
    refine wc_loop (X := Bool) (fun k => [(0, .slice (some ⟨g, pre.length, none⟩) 2 cap), (1, .int .i64 0), (2, .int .i64 2), (3, .func (.func 94) #[] #[]), (8, .int .i64 1), (9, .int .i64 (match k with | true => 1 | false => 0))]) (fun k => [grpB (othersL W g), ⟨g, 119, pre ++ ((match k with | true => [(slv p1 m1 c1), (slv p2 m2 c2), (slv q1 n1 d1), (slv q2 n2 d2)] | false => [(slv q1 n1 d1), (slv q2 n2 d2), (slv p1 m1 c1), (slv p2 m2 c2)]) ++ junk), true, none⟩])
      (fun k => k = false → c < 0) (fun k => match k with | true => 1 | false => 0) true (fun h => by cases h) ⟨rfl, rfl, rfl, rfl, rfl, rfl, trivial⟩ [] rfl ?_
    rintro (_ | _) hk
    · refine zA ?_
      refine zA ?_
      refine zT Tryz.mixed (by kernel_rfl) ?_
      iterate 4 refine wq_pure Tryz.hT rfl rfl rfl ?_
      iterate 12 refine wq_skip rfl rfl ?_
      refine wq_pure Tryz.hT rfl rfl rfl ?_
      refine wq_nil ?_
      refine wl_nil ?_
      refine zE ?_
      refine zS rfl ?_
      refine zJ ?_
      iterate 2 refine zK ?_
      refine zL ?_
      refine zN ?_
      refine zE ?_
      refine zB ?_
      iterate 3 refine wl_pure Tryz.hT rfl rfl rfl ?_
      refine wl_nil ?_
      exact ne_loop false trivial (by decide) ⟨rfl, rfl, rfl, rfl, rfl, trivial⟩ [] (by show _ = [_, (⟨g, 119, pre ++ (ord2 c [slv p1 m1 c1, slv p2 m2 c2] [slv q1 n1 d1, slv q2 n2 d2] ++ junk), true, none⟩ : Bx)] ++ []; rw [ord2, if_pos (hk rfl)]; rfl)
    clear hk
    refine wc_upd 9 (.int .i64 1) rfl rfl ?_
    iterate 2 refine zA ?_
    refine zT Tryz.mixed (by kernel_rfl) ?_
    iterate 7 refine wq_pure Tryz.hT rfl rfl rfl ?_
    refine wq_indexAddr Tryz.hT rfl rfl rfl rfl rfl rfl rfl (by omega) (by omega) ?_
    refine wq_load rfl rfl rfl rfl (fun W hp => RowAt.load 0 Tryz.hT rfl ((fun W1 hp => show RowAt W1 g (pre.length + 1 * 2) [slv q1 n1 d1, slv q2 n2 d2] from row_pt hp 1 (A := pre ++ [slv p1 m1 c1, slv p2 m2 c2]) (C := junk) rfl (by simp) (by simp)) W hp) rfl) ?_
    iterate 3 refine wq_pure Tryz.hT rfl rfl rfl ?_
    refine wq_upd 29 (.int .i64 0) rfl rfl ?_
    refine wq_indexAddr Tryz.hT rfl rfl rfl rfl rfl rfl rfl (by omega) (by omega) ?_
    refine wq_load rfl rfl rfl rfl (fun W hp => RowAt.load 0 Tryz.hT rfl ((fun W1 hp => show RowAt W1 g (pre.length + 0 * 2) [slv p1 m1 c1, slv p2 m2 c2] from row_pt hp 1 (A := pre) (C := [slv q1 n1 d1, slv q2 n2 d2] ++ junk) rfl (by simp) (by simp)) W hp) rfl) ?_
    refine wq_call1 (capt := []) rfl rfl rfl rfl rfl rfl (by kernel_rfl) (fun W1 hp => hf W1 (keep_of hg ⟨_, List.mem_cons_self ..⟩ hp)) ?_
    iterate 2 refine wq_pure Tryz.hT rfl rfl rfl ?_
    refine wq_nil ?_
    refine wl_nil ?_
    refine zE ?_
    refine wc_cond rfl (fun h => ?_) (fun h => ?_)
    rotate_left
    · have hc : ¬ c < 0 := by have h' : decide (c < 0) = false := h; simpa using h'
      refine zJ ?_
      iterate 2 refine zK ?_
      refine zL ?_
      refine zN ?_
      refine zE ?_
      refine zB ?_
      iterate 3 refine wl_pure Tryz.hT rfl rfl rfl ?_
      refine wl_nil ?_
      exact ne_loop false trivial (by decide) ⟨rfl, rfl, rfl, rfl, rfl, trivial⟩ [] (by show _ = [_, (⟨g, 119, pre ++ (ord2 c [slv p1 m1 c1, slv p2 m2 c2] [slv q1 n1 d1, slv q2 n2 d2] ++ junk), true, none⟩ : Bx)] ++ []; rw [ord2, if_neg hc]; rfl)
    have hc : c < 0 := by have h' : decide (c < 0) = true := h; simpa using h'
    clear h
    refine zI ?_
    refine zE ?_
    refine wc_seq ?_
    refine wc_block ?_
    repeat refine wc_seq ?_
    refine wc_lateY (X := Unit) [true, true, false, false, false, true, true, true, true, true, true, true, true, true, true, false, false, false] (fun _ => [(0, .slice (some ⟨g, pre.length, none⟩) 2 cap), (1, .int .i64 0), (2, .int .i64 2), (3, .func (.func 94) #[] #[]), (8, .int .i64 1), (9, .int .i64 1)]) (fun _ => [grpB (othersL W g), ⟨g, 119, pre ++ ([slv q1 n1 d1, slv q2 n2 d2, slv p1 m1 c1, slv p2 m2 c2] ++ junk), true, none⟩])
      6 [grpB (othersL W g), ⟨g, 119, pre ++ ([slv p1 m1 c1, slv p2 m2 c2, slv q1 n1 d1, slv q2 n2 d2] ++ junk), true, none⟩] Tryz.mixed (by kernel_rfl) ?_ ?_
    · refine wq_pure Tryz.hT rfl rfl rfl ?_
      iterate 4 refine wq_pure Tryz.hT rfl rfl rfl ?_
      refine wq_upd 44 (.int .i64 0) rfl rfl ?_
      refine wq_indexAddr Tryz.hT rfl rfl rfl rfl rfl rfl rfl (by omega) (by omega) ?_
      refine wq_load rfl rfl rfl rfl (fun W hp => RowAt.load 0 Tryz.hT rfl ((fun W1 hp => show RowAt W1 g (pre.length + 0 * 2) [slv p1 m1 c1, slv p2 m2 c2] from row_pt hp 1 (A := pre) (C := [slv q1 n1 d1, slv q2 n2 d2] ++ junk) rfl (by simp) (by simp)) W hp) rfl) ?_
      iterate 2 refine wq_pure Tryz.hT rfl rfl rfl ?_
      refine wq_indexAddr Tryz.hT rfl rfl rfl rfl rfl rfl rfl (by omega) (by omega) ?_
      refine wq_load rfl rfl rfl rfl (fun W hp => RowAt.load 0 Tryz.hT rfl ((fun W1 hp => show RowAt W1 g (pre.length + 1 * 2) [slv q1 n1 d1, slv q2 n2 d2] from row_pt hp 1 (A := pre ++ [slv p1 m1 c1, slv p2 m2 c2]) (C := junk) rfl (by simp) (by simp)) W hp) rfl) ?_
      refine wq_indexAddr Tryz.hT rfl rfl rfl rfl rfl rfl rfl (by omega) (by omega) ?_
      refine wq_wt ?_
      have h1 : splice (pre ++ ([slv p1 m1 c1, slv p2 m2 c2, slv q1 n1 d1, slv q2 n2 d2] ++ junk)) (pre.length + 1 * 2) (Value.agg #[slv p1 m1 c1, slv p2 m2 c2]).cells.toList = pre ++ ([slv p1 m1 c1, slv p2 m2 c2, slv p1 m1 c1, slv p2 m2 c2] ++ junk) := by
        rw [splice_right]; rfl
      have h2 : splice (pre ++ ([slv p1 m1 c1, slv p2 m2 c2, slv p1 m1 c1, slv p2 m2 c2] ++ junk)) (pre.length + 0 * 2) (Value.agg #[slv q1 n1 d1, slv q2 n2 d2]).cells.toList = pre ++ ([slv q1 n1 d1, slv q2 n2 d2, slv p1 m1 c1, slv p2 m2 c2] ++ junk) := by
        rw [splice_right]; rfl
      refine wt_step rfl rfl (by ((repeat (first | refine Weak.same ?_ | refine Weak.off rfl ?_)); exact trivial)) ?_
      refine RS.cons ?_ (RS.cons ?_ (RS.cons ?_ (RS.nil)))
      · refine wl_pure Tryz.hT rfl rfl rfl ?_
        refine wl_nil ?_
        refine ne_wt ?_
        refine wt_step rfl rfl (by ((repeat (first | refine Weak.same ?_ | refine Weak.off rfl ?_)); exact trivial)) ?_
        refine RS.cons ?_ (RS.cons ?_ (RS.nil))
        · refine wl_pure Tryz.hT rfl rfl rfl ?_
          refine wl_nil ?_
          refine ne_wt ?_
          refine wt_step rfl rfl (by ((repeat (first | refine Weak.same ?_ | refine Weak.off rfl ?_)); exact trivial)) ?_
          refine RS.cons ?_ (RS.cons ?_ (RS.nil))
          · refine wl_pure Tryz.hT rfl rfl rfl ?_
            refine wl_nil ?_
            refine ne_wt ?_
            refine wt_step rfl rfl (by ((repeat (first | refine Weak.same ?_ | refine Weak.off rfl ?_)); exact trivial)) ?_
            refine RS.cons ?_ (RS.nil)
            refine wl_storeTo 1 _ Tryz.hT rfl rfl rfl rfl rfl rfl rfl rfl rfl rfl (by show pre.length + 1 * 2 + 2 ≤ (pre ++ ([slv p1 m1 c1, slv p2 m2 c2, slv q1 n1 d1, slv q2 n2 d2] ++ junk)).length; simp <;> omega) h1 ?_
            refine wl_nil ?_
            refine ne_wt ?_
            refine wt_stepF rfl rfl (by kernel_rfl) ?_
            refine RS.cons ?_ (RS.nil)
            refine wl_upd 41 (.int .i64 0) rfl rfl ?_; (first | refine wl_indexAddr Tryz.hT rfl rfl rfl rfl rfl rfl rfl (by omega) (by omega) ?_ | refine wq_indexAddr Tryz.hT rfl rfl rfl rfl rfl rfl rfl (by omega) (by omega) ?_)
            refine wl_nil ?_
            refine ne_wt ?_
            refine wt_stepF rfl rfl (by kernel_rfl) ?_
            refine RS.cons ?_ (RS.nil)
            refine wl_storeTo 1 _ Tryz.hT rfl rfl rfl rfl rfl rfl rfl rfl rfl rfl (by show pre.length + 0 * 2 + 2 ≤ (pre ++ ([slv p1 m1 c1, slv p2 m2 c2, slv p1 m1 c1, slv p2 m2 c2] ++ junk)).length; simp <;> omega) h2 ?_
            refine wl_nil ?_
            refine ne_wt ?_
            refine wt_doneF rfl (by kernel_rfl) ?_
            exact ne_late () ⟨rfl, rfl, rfl, rfl, rfl, rfl, trivial⟩ [0, 1] (by decide) rfl
          · refine wl_storeTo 1 _ Tryz.hT rfl rfl rfl rfl rfl rfl rfl rfl rfl rfl (by show pre.length + 1 * 2 + 2 ≤ (pre ++ ([slv p1 m1 c1, slv p2 m2 c2, slv q1 n1 d1, slv q2 n2 d2] ++ junk)).length; simp <;> omega) h1 ?_
            refine wl_nil ?_
            refine ne_wt ?_
            refine wt_stepF rfl rfl (by kernel_rfl) ?_
            refine RS.cons ?_ (RS.nil)
            refine wl_pure Tryz.hT rfl rfl rfl ?_
            refine wl_nil ?_
            refine ne_wt ?_
            refine wt_stepF rfl rfl (by kernel_rfl) ?_
            refine RS.cons ?_ (RS.nil)
            refine wl_upd 41 (.int .i64 0) rfl rfl ?_; (first | refine wl_indexAddr Tryz.hT rfl rfl rfl rfl rfl rfl rfl (by omega) (by omega) ?_ | refine wq_indexAddr Tryz.hT rfl rfl rfl rfl rfl rfl rfl (by omega) (by omega) ?_)
            refine wl_nil ?_
            refine ne_wt ?_
            refine wt_stepF rfl rfl (by kernel_rfl) ?_
            refine RS.cons ?_ (RS.nil)
            refine wl_storeTo 1 _ Tryz.hT rfl rfl rfl rfl rfl rfl rfl rfl rfl rfl (by show pre.length + 0 * 2 + 2 ≤ (pre ++ ([slv p1 m1 c1, slv p2 m2 c2, slv p1 m1 c1, slv p2 m2 c2] ++ junk)).length; simp <;> omega) h2 ?_
            refine wl_nil ?_
            refine ne_wt ?_
            refine wt_doneF rfl (by kernel_rfl) ?_
            exact ne_late () ⟨rfl, rfl, rfl, rfl, rfl, rfl, trivial⟩ [0, 1] (by decide) rfl
        · refine wl_storeTo 1 _ Tryz.hT rfl rfl rfl rfl rfl rfl rfl rfl rfl rfl (by show pre.length + 1 * 2 + 2 ≤ (pre ++ ([slv p1 m1 c1, slv p2 m2 c2, slv q1 n1 d1, slv q2 n2 d2] ++ junk)).length; simp <;> omega) h1 ?_
          refine wl_nil ?_
          refine ne_wt ?_
          refine wt_stepF rfl rfl (by kernel_rfl) ?_
          refine RS.cons ?_ (RS.nil)
          refine wl_pure Tryz.hT rfl rfl rfl ?_
          refine wl_nil ?_
          refine ne_wt ?_
          refine wt_stepF rfl rfl (by kernel_rfl) ?_
          refine RS.cons ?_ (RS.nil)
          refine wl_pure Tryz.hT rfl rfl rfl ?_
          refine wl_nil ?_
          refine ne_wt ?_
          refine wt_stepF rfl rfl (by kernel_rfl) ?_
          refine RS.cons ?_ (RS.nil)
          refine wl_upd 41 (.int .i64 0) rfl rfl ?_; (first | refine wl_indexAddr Tryz.hT rfl rfl rfl rfl rfl rfl rfl (by omega) (by omega) ?_ | refine wq_indexAddr Tryz.hT rfl rfl rfl rfl rfl rfl rfl (by omega) (by omega) ?_)
          refine wl_nil ?_
          refine ne_wt ?_
          refine wt_stepF rfl rfl (by kernel_rfl) ?_
          refine RS.cons ?_ (RS.nil)
          refine wl_storeTo 1 _ Tryz.hT rfl rfl rfl rfl rfl rfl rfl rfl rfl rfl (by show pre.length + 0 * 2 + 2 ≤ (pre ++ ([slv p1 m1 c1, slv p2 m2 c2, slv p1 m1 c1, slv p2 m2 c2] ++ junk)).length; simp <;> omega) h2 ?_
          refine wl_nil ?_
          refine ne_wt ?_
          refine wt_doneF rfl (by kernel_rfl) ?_
          exact ne_late () ⟨rfl, rfl, rfl, rfl, rfl, rfl, trivial⟩ [0, 1] (by decide) rfl
      · refine wl_pure Tryz.hT rfl rfl rfl ?_
        refine wl_nil ?_
        refine ne_wt ?_
        refine wt_step rfl rfl (by ((repeat (first | refine Weak.same ?_ | refine Weak.off rfl ?_)); exact trivial)) ?_
        refine RS.cons ?_ (RS.cons ?_ (RS.cons ?_ (RS.nil)))
        · refine wl_pure Tryz.hT rfl rfl rfl ?_
          refine wl_nil ?_
          refine ne_wt ?_
          refine wt_step rfl rfl (by ((repeat (first | refine Weak.same ?_ | refine Weak.off rfl ?_)); exact trivial)) ?_
          refine RS.cons ?_ (RS.cons ?_ (RS.nil))
          · refine wl_pure Tryz.hT rfl rfl rfl ?_
            refine wl_nil ?_
            refine ne_wt ?_
            refine wt_step rfl rfl (by ((repeat (first | refine Weak.same ?_ | refine Weak.off rfl ?_)); exact trivial)) ?_
            refine RS.cons ?_ (RS.nil)
            refine wl_storeTo 1 _ Tryz.hT rfl rfl rfl rfl rfl rfl rfl rfl rfl rfl (by show pre.length + 1 * 2 + 2 ≤ (pre ++ ([slv p1 m1 c1, slv p2 m2 c2, slv q1 n1 d1, slv q2 n2 d2] ++ junk)).length; simp <;> omega) h1 ?_
            refine wl_nil ?_
            refine ne_wt ?_
            refine wt_stepF rfl rfl (by kernel_rfl) ?_
            refine RS.cons ?_ (RS.nil)
            refine wl_upd 41 (.int .i64 0) rfl rfl ?_; (first | refine wl_indexAddr Tryz.hT rfl rfl rfl rfl rfl rfl rfl (by omega) (by omega) ?_ | refine wq_indexAddr Tryz.hT rfl rfl rfl rfl rfl rfl rfl (by omega) (by omega) ?_)
            refine wl_nil ?_
            refine ne_wt ?_
            refine wt_stepF rfl rfl (by kernel_rfl) ?_
            refine RS.cons ?_ (RS.nil)
            refine wl_storeTo 1 _ Tryz.hT rfl rfl rfl rfl rfl rfl rfl rfl rfl rfl (by show pre.length + 0 * 2 + 2 ≤ (pre ++ ([slv p1 m1 c1, slv p2 m2 c2, slv p1 m1 c1, slv p2 m2 c2] ++ junk)).length; simp <;> omega) h2 ?_
            refine wl_nil ?_
            refine ne_wt ?_
            refine wt_doneF rfl (by kernel_rfl) ?_
            exact ne_late () ⟨rfl, rfl, rfl, rfl, rfl, rfl, trivial⟩ [0, 1] (by decide) rfl
          · refine wl_storeTo 1 _ Tryz.hT rfl rfl rfl rfl rfl rfl rfl rfl rfl rfl (by show pre.length + 1 * 2 + 2 ≤ (pre ++ ([slv p1 m1 c1, slv p2 m2 c2, slv q1 n1 d1, slv q2 n2 d2] ++ junk)).length; simp <;> omega) h1 ?_
            refine wl_nil ?_
            refine ne_wt ?_
            refine wt_stepF rfl rfl (by kernel_rfl) ?_
            refine RS.cons ?_ (RS.nil)
            refine wl_pure Tryz.hT rfl rfl rfl ?_
            refine wl_nil ?_
            refine ne_wt ?_
            refine wt_stepF rfl rfl (by kernel_rfl) ?_
            refine RS.cons ?_ (RS.nil)
            refine wl_upd 41 (.int .i64 0) rfl rfl ?_; (first | refine wl_indexAddr Tryz.hT rfl rfl rfl rfl rfl rfl rfl (by omega) (by omega) ?_ | refine wq_indexAddr Tryz.hT rfl rfl rfl rfl rfl rfl rfl (by omega) (by omega) ?_)
            refine wl_nil ?_
            refine ne_wt ?_
            refine wt_stepF rfl rfl (by kernel_rfl) ?_
            refine RS.cons ?_ (RS.nil)
            refine wl_storeTo 1 _ Tryz.hT rfl rfl rfl rfl rfl rfl rfl rfl rfl rfl (by show pre.length + 0 * 2 + 2 ≤ (pre ++ ([slv p1 m1 c1, slv p2 m2 c2, slv p1 m1 c1, slv p2 m2 c2] ++ junk)).length; simp <;> omega) h2 ?_
            refine wl_nil ?_
            refine ne_wt ?_
            refine wt_doneF rfl (by kernel_rfl) ?_
            exact ne_late () ⟨rfl, rfl, rfl, rfl, rfl, rfl, trivial⟩ [0, 1] (by decide) rfl
        · refine wl_pure Tryz.hT rfl rfl rfl ?_
          refine wl_nil ?_
          refine ne_wt ?_
          refine wt_step rfl rfl (by ((repeat (first | refine Weak.same ?_ | refine Weak.off rfl ?_)); exact trivial)) ?_
          refine RS.cons ?_ (RS.cons ?_ (RS.nil))
          · refine wl_pure Tryz.hT rfl rfl rfl ?_
            refine wl_nil ?_
            refine ne_wt ?_
            refine wt_step rfl rfl (by ((repeat (first | refine Weak.same ?_ | refine Weak.off rfl ?_)); exact trivial)) ?_
            refine RS.cons ?_ (RS.nil)
            refine wl_storeTo 1 _ Tryz.hT rfl rfl rfl rfl rfl rfl rfl rfl rfl rfl (by show pre.length + 1 * 2 + 2 ≤ (pre ++ ([slv p1 m1 c1, slv p2 m2 c2, slv q1 n1 d1, slv q2 n2 d2] ++ junk)).length; simp <;> omega) h1 ?_
            refine wl_nil ?_
            refine ne_wt ?_
            refine wt_stepF rfl rfl (by kernel_rfl) ?_
            refine RS.cons ?_ (RS.nil)
            refine wl_upd 41 (.int .i64 0) rfl rfl ?_; (first | refine wl_indexAddr Tryz.hT rfl rfl rfl rfl rfl rfl rfl (by omega) (by omega) ?_ | refine wq_indexAddr Tryz.hT rfl rfl rfl rfl rfl rfl rfl (by omega) (by omega) ?_)
            refine wl_nil ?_
            refine ne_wt ?_
            refine wt_stepF rfl rfl (by kernel_rfl) ?_
            refine RS.cons ?_ (RS.nil)
            refine wl_storeTo 1 _ Tryz.hT rfl rfl rfl rfl rfl rfl rfl rfl rfl rfl (by show pre.length + 0 * 2 + 2 ≤ (pre ++ ([slv p1 m1 c1, slv p2 m2 c2, slv p1 m1 c1, slv p2 m2 c2] ++ junk)).length; simp <;> omega) h2 ?_
            refine wl_nil ?_
            refine ne_wt ?_
            refine wt_doneF rfl (by kernel_rfl) ?_
            exact ne_late () ⟨rfl, rfl, rfl, rfl, rfl, rfl, trivial⟩ [0, 1] (by decide) rfl
          · refine wl_storeTo 1 _ Tryz.hT rfl rfl rfl rfl rfl rfl rfl rfl rfl rfl (by show pre.length + 1 * 2 + 2 ≤ (pre ++ ([slv p1 m1 c1, slv p2 m2 c2, slv q1 n1 d1, slv q2 n2 d2] ++ junk)).length; simp <;> omega) h1 ?_
            refine wl_nil ?_
            refine ne_wt ?_
            refine wt_stepF rfl rfl (by kernel_rfl) ?_
            refine RS.cons ?_ (RS.nil)
            refine wl_pure Tryz.hT rfl rfl rfl ?_
            refine wl_nil ?_
            refine ne_wt ?_
            refine wt_stepF rfl rfl (by kernel_rfl) ?_
            refine RS.cons ?_ (RS.nil)
            refine wl_upd 41 (.int .i64 0) rfl rfl ?_; (first | refine wl_indexAddr Tryz.hT rfl rfl rfl rfl rfl rfl rfl (by omega) (by omega) ?_ | refine wq_indexAddr Tryz.hT rfl rfl rfl rfl rfl rfl rfl (by omega) (by omega) ?_)
            refine wl_nil ?_
            refine ne_wt ?_
            refine wt_stepF rfl rfl (by kernel_rfl) ?_
            refine RS.cons ?_ (RS.nil)
            refine wl_storeTo 1 _ Tryz.hT rfl rfl rfl rfl rfl rfl rfl rfl rfl rfl (by show pre.length + 0 * 2 + 2 ≤ (pre ++ ([slv p1 m1 c1, slv p2 m2 c2, slv p1 m1 c1, slv p2 m2 c2] ++ junk)).length; simp <;> omega) h2 ?_
            refine wl_nil ?_
            refine ne_wt ?_
            refine wt_doneF rfl (by kernel_rfl) ?_
            exact ne_late () ⟨rfl, rfl, rfl, rfl, rfl, rfl, trivial⟩ [0, 1] (by decide) rfl
        · refine wl_storeTo 1 _ Tryz.hT rfl rfl rfl rfl rfl rfl rfl rfl rfl rfl (by show pre.length + 1 * 2 + 2 ≤ (pre ++ ([slv p1 m1 c1, slv p2 m2 c2, slv q1 n1 d1, slv q2 n2 d2] ++ junk)).length; simp <;> omega) h1 ?_
          refine wl_nil ?_
          refine ne_wt ?_
          refine wt_stepF rfl rfl (by kernel_rfl) ?_
          refine RS.cons ?_ (RS.cons ?_ (RS.nil))
          · refine wl_pure Tryz.hT rfl rfl rfl ?_
            refine wl_nil ?_
            refine ne_wt ?_
            refine wt_stepF rfl rfl (by kernel_rfl) ?_
            refine RS.cons ?_ (RS.nil)
            refine wl_pure Tryz.hT rfl rfl rfl ?_
            refine wl_nil ?_
            refine ne_wt ?_
            refine wt_stepF rfl rfl (by kernel_rfl) ?_
            refine RS.cons ?_ (RS.nil)
            refine wl_upd 41 (.int .i64 0) rfl rfl ?_; (first | refine wl_indexAddr Tryz.hT rfl rfl rfl rfl rfl rfl rfl (by omega) (by omega) ?_ | refine wq_indexAddr Tryz.hT rfl rfl rfl rfl rfl rfl rfl (by omega) (by omega) ?_)
            refine wl_nil ?_
            refine ne_wt ?_
            refine wt_stepF rfl rfl (by kernel_rfl) ?_
            refine RS.cons ?_ (RS.nil)
            refine wl_storeTo 1 _ Tryz.hT rfl rfl rfl rfl rfl rfl rfl rfl rfl rfl (by show pre.length + 0 * 2 + 2 ≤ (pre ++ ([slv p1 m1 c1, slv p2 m2 c2, slv p1 m1 c1, slv p2 m2 c2] ++ junk)).length; simp <;> omega) h2 ?_
            refine wl_nil ?_
            refine ne_wt ?_
            refine wt_doneF rfl (by kernel_rfl) ?_
            exact ne_late () ⟨rfl, rfl, rfl, rfl, rfl, rfl, trivial⟩ [0, 1] (by decide) rfl
          · refine wl_pure Tryz.hT rfl rfl rfl ?_
            refine wl_nil ?_
            refine ne_wt ?_
            refine wt_stepF rfl rfl (by kernel_rfl) ?_
            refine RS.cons ?_ (RS.nil)
            refine wl_pure Tryz.hT rfl rfl rfl ?_
            refine wl_nil ?_
            refine ne_wt ?_
            refine wt_stepF rfl rfl (by kernel_rfl) ?_
            refine RS.cons ?_ (RS.nil)
            refine wl_upd 41 (.int .i64 0) rfl rfl ?_; (first | refine wl_indexAddr Tryz.hT rfl rfl rfl rfl rfl rfl rfl (by omega) (by omega) ?_ | refine wq_indexAddr Tryz.hT rfl rfl rfl rfl rfl rfl rfl (by omega) (by omega) ?_)
            refine wl_nil ?_
            refine ne_wt ?_
            refine wt_stepF rfl rfl (by kernel_rfl) ?_
            refine RS.cons ?_ (RS.nil)
            refine wl_storeTo 1 _ Tryz.hT rfl rfl rfl rfl rfl rfl rfl rfl rfl rfl (by show pre.length + 0 * 2 + 2 ≤ (pre ++ ([slv p1 m1 c1, slv p2 m2 c2, slv p1 m1 c1, slv p2 m2 c2] ++ junk)).length; simp <;> omega) h2 ?_
            refine wl_nil ?_
            refine ne_wt ?_
            refine wt_doneF rfl (by kernel_rfl) ?_
            exact ne_late () ⟨rfl, rfl, rfl, rfl, rfl, rfl, trivial⟩ [0, 1] (by decide) rfl
      · refine wl_storeTo 1 _ Tryz.hT rfl rfl rfl rfl rfl rfl rfl rfl rfl rfl (by show pre.length + 1 * 2 + 2 ≤ (pre ++ ([slv p1 m1 c1, slv p2 m2 c2, slv q1 n1 d1, slv q2 n2 d2] ++ junk)).length; simp <;> omega) h1 ?_
        refine wl_nil ?_
        refine ne_wt ?_
        refine wt_stepF rfl rfl (by kernel_rfl) ?_
        refine RS.cons ?_ (RS.cons ?_ (RS.nil))
        · refine wl_pure Tryz.hT rfl rfl rfl ?_
          refine wl_nil ?_
          refine ne_wt ?_
          refine wt_stepF rfl rfl (by kernel_rfl) ?_
          refine RS.cons ?_ (RS.nil)
          refine wl_pure Tryz.hT rfl rfl rfl ?_
          refine wl_nil ?_
          refine ne_wt ?_
          refine wt_stepF rfl rfl (by kernel_rfl) ?_
          refine RS.cons ?_ (RS.nil)
          refine wl_pure Tryz.hT rfl rfl rfl ?_
          refine wl_nil ?_
          refine ne_wt ?_
          refine wt_stepF rfl rfl (by kernel_rfl) ?_
          refine RS.cons ?_ (RS.nil)
          refine wl_upd 41 (.int .i64 0) rfl rfl ?_; (first | refine wl_indexAddr Tryz.hT rfl rfl rfl rfl rfl rfl rfl (by omega) (by omega) ?_ | refine wq_indexAddr Tryz.hT rfl rfl rfl rfl rfl rfl rfl (by omega) (by omega) ?_)
          refine wl_nil ?_
          refine ne_wt ?_
          refine wt_stepF rfl rfl (by kernel_rfl) ?_
          refine RS.cons ?_ (RS.nil)
          refine wl_storeTo 1 _ Tryz.hT rfl rfl rfl rfl rfl rfl rfl rfl rfl rfl (by show pre.length + 0 * 2 + 2 ≤ (pre ++ ([slv p1 m1 c1, slv p2 m2 c2, slv p1 m1 c1, slv p2 m2 c2] ++ junk)).length; simp <;> omega) h2 ?_
          refine wl_nil ?_
          refine ne_wt ?_
          refine wt_doneF rfl (by kernel_rfl) ?_
          exact ne_late () ⟨rfl, rfl, rfl, rfl, rfl, rfl, trivial⟩ [0, 1] (by decide) rfl
        · refine wl_pure Tryz.hT rfl rfl rfl ?_
          refine wl_nil ?_
          refine ne_wt ?_
          refine wt_stepF rfl rfl (by kernel_rfl) ?_
          refine RS.cons ?_ (RS.cons ?_ (RS.nil))
          · refine wl_pure Tryz.hT rfl rfl rfl ?_
            refine wl_nil ?_
            refine ne_wt ?_
            refine wt_stepF rfl rfl (by kernel_rfl) ?_
            refine RS.cons ?_ (RS.nil)
            refine wl_pure Tryz.hT rfl rfl rfl ?_
            refine wl_nil ?_
            refine ne_wt ?_
            refine wt_stepF rfl rfl (by kernel_rfl) ?_
            refine RS.cons ?_ (RS.nil)
            refine wl_upd 41 (.int .i64 0) rfl rfl ?_; (first | refine wl_indexAddr Tryz.hT rfl rfl rfl rfl rfl rfl rfl (by omega) (by omega) ?_ | refine wq_indexAddr Tryz.hT rfl rfl rfl rfl rfl rfl rfl (by omega) (by omega) ?_)
            refine wl_nil ?_
            refine ne_wt ?_
            refine wt_stepF rfl rfl (by kernel_rfl) ?_
            refine RS.cons ?_ (RS.nil)
            refine wl_storeTo 1 _ Tryz.hT rfl rfl rfl rfl rfl rfl rfl rfl rfl rfl (by show pre.length + 0 * 2 + 2 ≤ (pre ++ ([slv p1 m1 c1, slv p2 m2 c2, slv p1 m1 c1, slv p2 m2 c2] ++ junk)).length; simp <;> omega) h2 ?_
            refine wl_nil ?_
            refine ne_wt ?_
            refine wt_doneF rfl (by kernel_rfl) ?_
            exact ne_late () ⟨rfl, rfl, rfl, rfl, rfl, rfl, trivial⟩ [0, 1] (by decide) rfl
          · refine wl_pure Tryz.hT rfl rfl rfl ?_
            refine wl_nil ?_
            refine ne_wt ?_
            refine wt_stepF rfl rfl (by kernel_rfl) ?_
            refine RS.cons ?_ (RS.nil)
            refine wl_pure Tryz.hT rfl rfl rfl ?_
            refine wl_nil ?_
            refine ne_wt ?_
            refine wt_stepF rfl rfl (by kernel_rfl) ?_
            refine RS.cons ?_ (RS.nil)
            refine wl_upd 41 (.int .i64 0) rfl rfl ?_; (first | refine wl_indexAddr Tryz.hT rfl rfl rfl rfl rfl rfl rfl (by omega) (by omega) ?_ | refine wq_indexAddr Tryz.hT rfl rfl rfl rfl rfl rfl rfl (by omega) (by omega) ?_)
            refine wl_nil ?_
            refine ne_wt ?_
            refine wt_stepF rfl rfl (by kernel_rfl) ?_
            refine RS.cons ?_ (RS.nil)
            refine wl_storeTo 1 _ Tryz.hT rfl rfl rfl rfl rfl rfl rfl rfl rfl rfl (by show pre.length + 0 * 2 + 2 ≤ (pre ++ ([slv p1 m1 c1, slv p2 m2 c2, slv p1 m1 c1, slv p2 m2 c2] ++ junk)).length; simp <;> omega) h2 ?_
            refine wl_nil ?_
            refine ne_wt ?_
            refine wt_doneF rfl (by kernel_rfl) ?_
            exact ne_late () ⟨rfl, rfl, rfl, rfl, rfl, rfl, trivial⟩ [0, 1] (by decide) rfl
    intro _
    refine zN ?_
    refine zE ?_
    refine zB ?_
    iterate 3 refine wl_pure Tryz.hT rfl rfl rfl ?_
    refine wl_nil ?_
    exact ne_loop false (fun _ => hc) (by decide) ⟨rfl, rfl, rfl, rfl, rfl, rfl, trivial⟩ [] rfl
  refine key.mono ?_
  rintro e W' ⟨x, he, _, hb, hn'⟩
  exact ⟨x, he, trivial, near_of hg rfl hb hn'⟩
theorem len_gives (x : Nat) (h : x ≤ 18446744073709551615) (W : World) : CallsR Tryz.prog 85 #[.int .u64 (x : Nat)] W (fun _ : Unit => .int .i64 (Lib.bitLen x)) (fun _ => True) (fun _ => []) := by
  refine CallsR.of1 ((Go.Proofs.Any.bits_Len (P := Tryz.prog) (ρ := Tryz.lays189_ren) { Tryz.lays189 with } (x : Int) W (by omega) (by omega)).mono ?_)
  rintro e w' ⟨rfl, rfl⟩
  exact ⟨rfl, Below.refl _ _⟩
theorem pdq1_gives (W : World) (p : Option Addr) (n cap : Nat) (z : Int) (hn : n ≤ 1) : CallsR Tryz.prog 148 #[.slice p n cap, .int .i64 0, .int .i64 (n : Nat), .int .i64 z, .func (.func 94) #[] #[]] W (fun _ : Unit => .tuple #[]) (fun _ => True) (fun _ => []) := by
  refine calls_enter (args := [.slice p n cap, .int .i64 0, .int .i64 (n : Nat), .int .i64 z, .func (.func 94) #[] #[]]) Tryz.func148 rfl rfl rfl ?_
  refine zA ?_
  refine zB ?_
  refine wl_pure Tryz.hT rfl rfl rfl ?_
  refine wl_nil ?_
  refine zE ?_
  refine zA ?_
  refine zB ?_
  refine wl_pure Tryz.hT rfl rfl rfl ?_
  refine wl_nil ?_
  refine zE ?_
  refine zH ?_
  refine wc_loop (X := Unit) (fun _ => [(0, .slice p n cap), (1, .int .i64 0), (2, .int .i64 (n : Nat)), (3, .int .i64 z), (4, .func (.func 94) #[] #[])]) (fun _ => []) (fun _ => True) (fun _ => 0) () trivial ⟨rfl, rfl, rfl, rfl, rfl, trivial⟩ [] rfl ?_
  intro _ _
  refine zH ?_
  refine zA ?_
  refine zB ?_
  iterate 3 refine wl_pure Tryz.hT rfl rfl rfl ?_
  refine wl_upd 23 (.int .i64 (n : Nat)) rfl (congrArg (Value.int .i64) (show w64 ((n : Nat) - 0) = _ by rw [w64_id (by omega) (by omega)]; omega)) ?_
  refine wl_pure Tryz.hT rfl rfl rfl ?_
  refine wl_nil ?_
  refine zE ?_
  iterate 2 refine zA ?_
  refine zB ?_
  iterate 2 refine wl_pure Tryz.hT rfl rfl rfl ?_
  refine wl_nil ?_
  refine zE ?_
  refine wc_cond rfl (fun h => ?_) (fun h => ?_)
  rotate_left
  · have h' : decide (((n : Nat) : Int) ≤ 12) = false := h
    rw [decide_eq_false_iff_not] at h'; omega
  clear h
  refine zA ?_
  refine zB ?_
  iterate 4 refine wl_pure Tryz.hT rfl rfl rfl ?_
  refine wl_call1 (capt := []) rfl rfl rfl rfl rfl rfl (by kernel_rfl) (fun W _ => ins1_gives W p n cap hn) ?_
  refine wl_nil ?_
  refine zE ?_
  refine zO ?_
  refine zP ?_
  refine zQ ?_
  refine zP ?_
  refine zQ ?_
  exact ne_ret0 (X := Unit) (val := fun _ => .tuple #[]) (Φ := fun _ => True) (nb := fun _ => []) (fn := Tryz.f148) Tryz.hT rfl () rfl trivial fun W _ => NewBx.nil _ _
set_option maxHeartbeats 4000000 in
theorem pdq2_gives (W : World) (g off cap : Nat) (pre junk : List Value) (p1 p2 q1 q2 : Option Addr) (m1 m2 n1 n2 c1 c2 d1 d2 : Nat) (c : Int) (z : Int) (hoff : off = pre.length) (hg : W.heap[g]? = some (.cells (pre ++ ([slv p1 m1 c1, slv p2 m2 c2, slv q1 n1 d1, slv q2 n2 d2] ++ junk)).toArray 119 (0, 0)))
    (hf : ∀ W', Keep W W' g → CallsR Tryz.prog 94 #[.agg #[slv q1 n1 d1, slv q2 n2 d2], .agg #[slv p1 m1 c1, slv p2 m2 c2]] W' (fun _ : Unit => .int .i64 c) (fun _ => True) (fun _ => [])) :
    Calls Tryz.prog 148 #[.slice (some ⟨g, off, none⟩) 2 cap, .int .i64 0, .int .i64 2, .int .i64 z, .func (.func 94) #[] #[]] W fun e W' => ∃ x : Unit, e = .returned ((fun _ => .tuple #[]) x) ∧ True ∧ Near W W' g ((fun _ => g) x) ((fun _ => .cells (pre ++ (ord2 c [slv p1 m1 c1, slv p2 m2 c2] [slv q1 n1 d1, slv q2 n2 d2] ++ junk)).toArray 119 (0, 0)) x) := by
  have key : Calls Tryz.prog 148 [.slice (some ⟨g, off, none⟩) 2 cap, .int .i64 0, .int .i64 2, .int .i64 z, .func (.func 94) #[] #[]].toArray W fun e W' => ∃ x : Unit, e = .returned ((fun _ => .tuple #[]) x) ∧ (fun _ => True) x ∧ Below (noHeap W).heap.size (noHeap W) W' ∧ NewBx (noHeap W) W' ((fun _ => [grpB (othersL W g), ⟨g, 119, pre ++ (ord2 c [slv p1 m1 c1, slv p2 m2 c2] [slv q1 n1 d1, slv q2 n2 d2] ++ junk), true, none⟩]) x) := by
    refine calls_enterT (X := Unit) (val := fun _ => .tuple #[]) (Φ := fun _ => True) (nb := fun _ => [grpB (othersL W g), ⟨g, 119, pre ++ (ord2 c [slv p1 m1 c1, slv p2 m2 c2] [slv q1 n1 d1, slv q2 n2 d2] ++ junk), true, none⟩]) (Hp.enterT (B := ⟨g, 119, pre ++ ([slv p1 m1 c1, slv p2 m2 c2, slv q1 n1 d1, slv q2 n2 d2] ++ junk), true, none⟩) rfl hg) Tryz.func148 rfl rfl rfl ?_
    refine zA ?_
    refine zB ?_
    refine wl_pure Tryz.hT rfl rfl rfl ?_
    refine wl_nil ?_
    refine zE ?_
    refine zA ?_
    refine zB ?_
    refine wl_pure Tryz.hT rfl rfl rfl ?_
    refine wl_nil ?_
    refine zE ?_
    refine zH ?_
    refine wc_loop (X := Unit) (fun _ => [(0, .slice (some ⟨g, off, none⟩) 2 cap), (1, .int .i64 0), (2, .int .i64 2), (3, .int .i64 z), (4, .func (.func 94) #[] #[])]) (fun _ => [grpB (othersL W g), ⟨g, 119, pre ++ ([slv p1 m1 c1, slv p2 m2 c2, slv q1 n1 d1, slv q2 n2 d2] ++ junk), true, none⟩]) (fun _ => True) (fun _ => 0) () trivial ⟨rfl, rfl, rfl, rfl, rfl, trivial⟩ [] rfl ?_
    intro _ _
    refine zH ?_
    refine zA ?_
    refine zB ?_
    iterate 3 refine wl_pure Tryz.hT rfl rfl rfl ?_
    refine wl_upd 23 (.int .i64 2) rfl rfl ?_
    refine wl_pure Tryz.hT rfl rfl rfl ?_
    refine wl_nil ?_
    refine zE ?_
    iterate 2 refine zA ?_
    refine zB ?_
    iterate 2 refine wl_pure Tryz.hT rfl rfl rfl ?_
    refine wl_nil ?_
    refine zE ?_
    refine zR rfl ?_
    refine zA ?_
    refine zB ?_
    iterate 4 refine wl_pure Tryz.hT rfl rfl rfl ?_
    refine wl_callN (X := Unit) (val := fun _ => .tuple #[]) (Φ := fun _ => True) (capt := []) 1 (B := ⟨g, 119, pre ++ ([slv p1 m1 c1, slv p2 m2 c2, slv q1 n1 d1, slv q2 n2 d2] ++ junk), true, none⟩) (L1 := []) (L2 := []) (b := g) (ob := .cells (pre ++ ([slv p1 m1 c1, slv p2 m2 c2, slv q1 n1 d1, slv q2 n2 d2] ++ junk)).toArray 119 (0, 0)) (fun _ => ⟨g, 119, pre ++ (ord2 c [slv p1 m1 c1, slv p2 m2 c2] [slv q1 n1 d1, slv q2 n2 d2] ++ junk), true, none⟩) (g' := fun _ => g) (o' := fun _ => .cells (pre ++ (ord2 c [slv p1 m1 c1, slv p2 m2 c2] [slv q1 n1 d1, slv q2 n2 d2] ++ junk)).toArray 119 (0, 0))
      rfl rfl rfl rfl rfl rfl (by kernel_rfl) rfl rfl (fun _ _ => rfl) (fun W1 hp => ins2_gives W1 g off cap pre junk p1 p2 q1 q2 m1 m2 n1 n2 c1 c2 d1 d2 c hoff (hp.own.cell 1 _ rfl (g, .cells (pre ++ ([slv p1 m1 c1, slv p2 m2 c2, slv q1 n1 d1, slv q2 n2 d2] ++ junk)).toArray 119 (0, 0)) (List.mem_cons_self ..)).1 (fun W2 hk => hf W2 ((keep_of hg ⟨_, List.mem_cons_self ..⟩ hp).trans hk))) (fun _ _ => ?_)
    refine wl_nil ?_
    refine zE ?_
    refine zO ?_
    refine zP ?_
    refine zQ ?_
    refine zP ?_
    refine zQ ?_
    refine ne_ret0 (X := Unit) (val := fun _ => .tuple #[]) (Φ := fun _ => True) (nb := fun _ => [grpB (othersL W g), ⟨g, 119, pre ++ (ord2 c [slv p1 m1 c1, slv p2 m2 c2] [slv q1 n1 d1, slv q2 n2 d2] ++ junk), true, none⟩]) (fn := Tryz.f148) Tryz.hT rfl () rfl trivial fun W1 hp => ?_
    exact (hp.pick (l := [grpB (othersL W g), ⟨g, 119, pre ++ (ord2 c [slv p1 m1 c1, slv p2 m2 c2] [slv q1 n1 d1, slv q2 n2 d2] ++ junk), true, none⟩]) [0, 1] (by decide) rfl).own
  refine key.mono ?_
  rintro e W' ⟨x, he, _, hb, hn'⟩
  exact ⟨x, he, trivial, near_of hg rfl hb hn'⟩
theorem sortF1_gives (W : World) (p : Option Addr) (n cap : Nat) (hn : n ≤ 1) : CallsR Tryz.prog 93 #[.slice p n cap, .func (.func 94) #[] #[]] W (fun _ : Unit => .tuple #[]) (fun _ => True) (fun _ => []) := by
  refine calls_enter (args := [.slice p n cap, .func (.func 94) #[] #[]]) Tryz.func93 rfl rfl rfl ?_
  have hz : ∃ z : Nat, z ≤ 18446744073709551615 ∧ IntKind.u64.wrap (n : Nat) = (z : Int) ∧ n = z := by
    rcases (show n = 0 ∨ n = 1 by omega) with rfl | rfl
    · exact ⟨0, by omega, rfl, rfl⟩
    · exact ⟨1, by omega, rfl, rfl⟩
  obtain ⟨z, hz1, hz2, rfl⟩ := hz
  refine zA ?_
  refine zB ?_
  iterate 3 refine wl_pure Tryz.hT rfl rfl rfl ?_
  refine wl_nil ?_
  refine zE ?_
  refine zB ?_
  iterate 3 refine wl_pure Tryz.hT rfl rfl rfl ?_
  refine wl_cvA (k := .u64) (kt := .i64) (by kernel_rfl) (by kernel_rfl) rfl rfl rfl rfl ?_
  refine wl_upd 10 (.int .u64 (n : Nat)) rfl (congrArg (Value.int .u64) hz2) ?_
  refine wl_call1 (capt := []) rfl rfl rfl rfl rfl rfl (by kernel_rfl) (fun W _ => len_gives n hz1 W) ?_
  refine wl_pure Tryz.hT rfl rfl rfl ?_
  refine wl_call1 (capt := []) rfl rfl rfl rfl rfl rfl (by kernel_rfl) (fun W _ => pdq1_gives W p n cap _ hn) ?_
  refine wl_nil ?_
  exact ne_end0 (X := Unit) (val := fun _ => .tuple #[]) (Φ := fun _ => True) (nb := fun _ => []) (fn := Tryz.f93) Tryz.hT rfl () rfl trivial fun W _ => NewBx.nil _ _
set_option maxHeartbeats 4000000 in
theorem sortF2_gives (W : World) (g off cap : Nat) (pre junk : List Value) (p1 p2 q1 q2 : Option Addr) (m1 m2 n1 n2 c1 c2 d1 d2 : Nat) (c : Int) (hoff : off = pre.length) (hg : W.heap[g]? = some (.cells (pre ++ ([slv p1 m1 c1, slv p2 m2 c2, slv q1 n1 d1, slv q2 n2 d2] ++ junk)).toArray 119 (0, 0)))
    (hf : ∀ W', Keep W W' g → CallsR Tryz.prog 94 #[.agg #[slv q1 n1 d1, slv q2 n2 d2], .agg #[slv p1 m1 c1, slv p2 m2 c2]] W' (fun _ : Unit => .int .i64 c) (fun _ => True) (fun _ => [])) :
    Calls Tryz.prog 93 #[.slice (some ⟨g, off, none⟩) 2 cap, .func (.func 94) #[] #[]] W fun e W' => ∃ x : Unit, e = .returned ((fun _ => .tuple #[]) x) ∧ True ∧ Near W W' g ((fun _ => g) x) ((fun _ => .cells (pre ++ (ord2 c [slv p1 m1 c1, slv p2 m2 c2] [slv q1 n1 d1, slv q2 n2 d2] ++ junk)).toArray 119 (0, 0)) x) := by
  have key : Calls Tryz.prog 93 [.slice (some ⟨g, off, none⟩) 2 cap, .func (.func 94) #[] #[]].toArray W fun e W' => ∃ x : Unit, e = .returned ((fun _ => .tuple #[]) x) ∧ (fun _ => True) x ∧ Below (noHeap W).heap.size (noHeap W) W' ∧ NewBx (noHeap W) W' ((fun _ => [grpB (othersL W g), ⟨g, 119, pre ++ (ord2 c [slv p1 m1 c1, slv p2 m2 c2] [slv q1 n1 d1, slv q2 n2 d2] ++ junk), true, none⟩]) x) := by
    refine calls_enterT (X := Unit) (val := fun _ => .tuple #[]) (Φ := fun _ => True) (nb := fun _ => [grpB (othersL W g), ⟨g, 119, pre ++ (ord2 c [slv p1 m1 c1, slv p2 m2 c2] [slv q1 n1 d1, slv q2 n2 d2] ++ junk), true, none⟩]) (Hp.enterT (B := ⟨g, 119, pre ++ ([slv p1 m1 c1, slv p2 m2 c2, slv q1 n1 d1, slv q2 n2 d2] ++ junk), true, none⟩) rfl hg) Tryz.func93 rfl rfl rfl ?_
    refine zA ?_
    refine zB ?_
    iterate 3 refine wl_pure Tryz.hT rfl rfl rfl ?_
    refine wl_nil ?_
    refine zE ?_
    refine zB ?_
    iterate 3 refine wl_pure Tryz.hT rfl rfl rfl ?_
    refine wl_cvA (k := .u64) (kt := .i64) (by kernel_rfl) (by kernel_rfl) rfl rfl rfl rfl ?_
    refine wl_upd 10 (.int .u64 ((2 : Nat) : Int)) rfl rfl ?_
    refine wl_call1 (capt := []) rfl rfl rfl rfl rfl rfl (by kernel_rfl) (fun W _ => len_gives 2 (by omega) W) ?_
    refine wl_pure Tryz.hT rfl rfl rfl ?_
    refine wl_callN (X := Unit) (val := fun _ => .tuple #[]) (Φ := fun _ => True) (capt := []) 1 (B := ⟨g, 119, pre ++ ([slv p1 m1 c1, slv p2 m2 c2, slv q1 n1 d1, slv q2 n2 d2] ++ junk), true, none⟩) (L1 := []) (L2 := []) (b := g) (ob := .cells (pre ++ ([slv p1 m1 c1, slv p2 m2 c2, slv q1 n1 d1, slv q2 n2 d2] ++ junk)).toArray 119 (0, 0)) (fun _ => ⟨g, 119, pre ++ (ord2 c [slv p1 m1 c1, slv p2 m2 c2] [slv q1 n1 d1, slv q2 n2 d2] ++ junk), true, none⟩) (g' := fun _ => g) (o' := fun _ => .cells (pre ++ (ord2 c [slv p1 m1 c1, slv p2 m2 c2] [slv q1 n1 d1, slv q2 n2 d2] ++ junk)).toArray 119 (0, 0))
      rfl rfl rfl rfl rfl rfl (by kernel_rfl) rfl rfl (fun _ _ => rfl) (fun W1 hp => pdq2_gives W1 g off cap pre junk p1 p2 q1 q2 m1 m2 n1 n2 c1 c2 d1 d2 c _ hoff (hp.own.cell 1 _ rfl (g, .cells (pre ++ ([slv p1 m1 c1, slv p2 m2 c2, slv q1 n1 d1, slv q2 n2 d2] ++ junk)).toArray 119 (0, 0)) (List.mem_cons_self ..)).1 (fun W2 hk => hf W2 ((keep_of hg ⟨_, List.mem_cons_self ..⟩ hp).trans hk))) (fun _ _ => ?_)
    refine wl_nil ?_
    refine ne_end0 (X := Unit) (val := fun _ => .tuple #[]) (Φ := fun _ => True) (nb := fun _ => [grpB (othersL W g), ⟨g, 119, pre ++ (ord2 c [slv p1 m1 c1, slv p2 m2 c2] [(slv q1 n1 d1), (slv q2 n2 d2)] ++ junk), true, none⟩]) (fn := Tryz.f93) Tryz.hT rfl () rfl trivial fun W1 hp => ?_
    exact (hp.pick (l := [grpB (othersL W g), ⟨g, 119, pre ++ (ord2 c [slv p1 m1 c1, slv p2 m2 c2] [(slv q1 n1 d1), (slv q2 n2 d2)] ++ junk), true, none⟩]) [0, 1] (by decide) rfl).own
  refine key.mono ?_
  rintro e W' ⟨x, he, _, hb, hn'⟩
  exact ⟨x, he, trivial, near_of hg rfl hb hn'⟩
end Go.Proofs.YtnpfkmbcejgnjaaGreatDoor
namespace Go.Proofs.YtnpfkmbcejgnjaaGreatDoor
open Go Go.RowKit Go.Am
/-- A group told in another order. -/
theorem hp_regroup {W0 W : World} {bxs : List Bx} (h : Hp W0 bxs W) {k : Nat} {B B' : Bx} (hk : bxs[k]? = some B) (hB : B'.blk.Perm B.blk) : Hp W0 (bxs.set k B') W := by
  refine ⟨h.below, fun j X hj p hp => ?_, fun j X hj => ?_, fun i j X Y hi hj hne p hp q hq => ?_⟩
  · rcases set_cases hj with ⟨_, rfl⟩ | ⟨_, h2⟩
    · exact h.own.cell k B hk p (hB.mem_iff.1 hp)
    · exact h.own.cell j X h2 p hp
  · rcases set_cases hj with ⟨_, rfl⟩ | ⟨_, h2⟩
    · exact (hB.map _).nodup_iff.2 (h.own.nd k B hk)
    · exact h.own.nd j X h2
  · rcases set_cases hi with ⟨e1, rfl⟩ | ⟨e1, h2⟩ <;> rcases set_cases hj with ⟨e2, rfl⟩ | ⟨e2, h3⟩
    · exact absurd (e1.trans e2.symm) hne
    · exact h.own.apart k j B Y hk h3 (fun e => e2 e.symm) p (hB.mem_iff.1 hp) q hq
    · exact h.own.apart i k X B h2 hk e1 p hp q (hB.mem_iff.1 hq)
    · exact h.own.apart i j X Y h2 h3 hne p hp q hq
theorem wc_regroup {r : Option Nat} {n : Nat} {N : Nat} {D : List Deferred} {Q : Exit → Act → World → Prop} {env : Env} {W0 : World} {bxs : List Bx} {P : Program} {c : Code} (k : Nat) {B : Bx} (B' : Bx) (hk : nth bxs k = some B) (hB : B'.blk.Perm B.blk) (h : WC r n P N D c Q env (Hp W0 (bxs.set k B'))) : WC r n P N D c Q env (Hp W0 bxs) := .mk fun a W ha hd hp =>
  h.out a W ha hd (hp_regroup hp (by rw [← nth_eq]; exact hk) hB)
abbrev MadeN := List (Vec × List Int)
def numB (mn : MadeN) : Bx := grpB (mn.reverse.flatMap fun p => (p.1.bx 3 (ci p.2)).blk)
theorem numB_snoc (mn : MadeN) (U : Vec) (l : List Int) : (numB (mn ++ [(U, l)])).blk = (U.bx 3 (ci l)).blk ++ (numB mn).blk := by
  show ((mn ++ [(U, l)]).reverse.flatMap _) = _ ++ (mn.reverse.flatMap _)
  rw [List.reverse_append]
  simp
/-- A ring and the old numbers of its sides, as a function has made them. -/
abbrev MadeP := List ((Vec × List Sd) × (Vec × List Int))
def prV (x : (Vec × List Sd) × (Vec × List Int)) : List Value := [x.1.1.val x.1.2.length, x.2.1.val x.2.2.length]
def prCells (mp : MadeP) : List Value := mp.flatMap prV
theorem prCells_snoc (mp : MadeP) (x : (Vec × List Sd) × (Vec × List Int)) : prCells (mp ++ [x]) = prCells mp ++ prV x := by simp [prCells]
theorem prCells_len : ∀ mp : MadeP, (prCells mp).length = mp.length * 2
  | [] => rfl
  | x :: mp => by
    show (prV x ++ prCells mp).length = _
    rw [List.length_append, prCells_len mp, List.length_cons]
    show 2 + mp.length * 2 = (mp.length + 1) * 2
    omega
theorem prCells_split {mp : MadeP} {k : Nat} {x : (Vec × List Sd) × (Vec × List Int)} (h : mp[k]? = some x) : prCells mp = prCells (mp.take k) ++ (prV x ++ prCells (mp.drop (k + 1))) := by
  obtain ⟨hk, rfl⟩ := List.getElem?_eq_some_iff.1 h
  have e : mp = mp.take k ++ (mp[k] :: mp.drop (k + 1)) := by
    have h2 := List.take_append_drop k mp
    rw [List.drop_eq_getElem_cons hk] at h2
    exact h2.symm
  conv => lhs; rw [e]
  unfold prCells
  rw [List.flatMap_append]; rfl
structure PairsOK (mp : MadeP) (ps : List PR) : Prop where
  eq : mp.map (fun p => (p.1.2, p.2.2)) = ps
  ok : ∀ p ∈ mp, p.1.1.OK 7 p.1.2.length (cellsOf p.1.2) ∧ p.2.1.OK 1 p.2.2.length (ci p.2.2) ∧ p.1.1.p ≠ none ∧ p.2.1.p ≠ none
theorem PairsOK.len {mp : MadeP} {ps : List PR} (h : PairsOK mp ps) : mp.length = ps.length := by rw [← h.eq, List.length_map]
theorem PairsOK.snoc {mp : MadeP} {ps : List PR} {x : (Vec × List Sd) × (Vec × List Int)} (h : PairsOK mp ps) (h1 : x.1.1.OK 7 x.1.2.length (cellsOf x.1.2)) (h2 : x.2.1.OK 1 x.2.2.length (ci x.2.2)) (h3 : x.1.1.p ≠ none) (h4 : x.2.1.p ≠ none) : PairsOK (mp ++ [x]) (ps ++ [(x.1.2, x.2.2)]) := by
  refine ⟨by rw [List.map_append, h.eq]; rfl, fun p hp => ?_⟩
  rcases List.mem_append.1 hp with hp | hp
  · exact h.ok p hp
  · obtain rfl := List.mem_singleton.1 hp
    exact ⟨h1, h2, h3, h4⟩
def sort2M : MadeP → MadeP
  | [x, y, z] => if cmpS (sd z.1.2 0) (sd y.1.2 0) < 0 then [x, z, y] else [x, y, z]
  | l => l
theorem sort2M_perm : ∀ mp : MadeP, (sort2M mp).Perm mp
  | [] => .refl _
  | [_] => .refl _
  | [_, _] => .refl _
  | [x, y, z] => by
    show (if _ then [x, z, y] else [x, y, z]).Perm _
    split
    · exact (List.Perm.swap ..).cons _
    · exact .refl _
  | _ :: _ :: _ :: _ :: _ => .refl _
theorem PairsOK.sort {mp : MadeP} {ps : List PR} (h : PairsOK mp ps) : PairsOK (sort2M mp) (sort2 ps) := by
  refine ⟨?_, fun p hp => h.ok p ((sort2M_perm mp).mem_iff.1 hp)⟩
  rw [← h.eq]
  match mp with
  | [] => rfl
  | [_] => rfl
  | [_, _] => rfl
  | [x, y, z] =>
    show List.map _ (if cmpS (sd z.1.2 0) (sd y.1.2 0) < 0 then [x, z, y] else [x, y, z]) = (x.1.2, x.2.2) :: (if cmpS (sd z.1.2 0) (sd y.1.2 0) < 0 then [(z.1.2, z.2.2), (y.1.2, y.2.2)] else [(y.1.2, y.2.2), (z.1.2, z.2.2)])
    split <;> rfl
  | _ :: _ :: _ :: _ :: _ => rfl
section
variable {W0 W : World} {bxs : List Bx}
/-- A made ring in its group. -/
theorem ring_grp (hp : Hp W0 bxs W) (k : Nat) {mk : Made} (hk : nth bxs k = some (mkB mk)) {x : Vec × List Sd} (hx : x ∈ mk) {g : Nat} (hg : x.1.p = some g) : RingP W (some ⟨g, 0, none⟩) x.2 ∧ (g, Obj.cells (cellsOf x.2 ++ x.1.junk).toArray 42 (0, 0)) ∈ (mkB mk).blk := by
  obtain ⟨⟨p, cap, junk⟩, l⟩ := x
  obtain rfl : p = some g := hg
  have hin : (g, Obj.cells (cellsOf l ++ junk).toArray 42 (0, 0)) ∈ mk.reverse.flatMap fun p => (p.1.bx 42 (cellsOf p.2)).blk :=
    List.mem_flatMap.2 ⟨_, List.mem_reverse.2 hx, List.mem_cons_self ..⟩
  have hrow := RowAt.of_grp hp k hk hin
  refine ⟨.inr ⟨g, 0, rfl, RingAt.of_cells hrow.lt fun m u hu => hrow.get m u ?_⟩, hin⟩
  rw [List.getElem?_append_left (List.getElem?_eq_some_iff.1 hu).1]
  exact hu
/-- .. and made numbers. -/
theorem num_grp (hp : Hp W0 bxs W) (k : Nat) {mn : MadeN} (hk : nth bxs k = some (numB mn)) {x : Vec × List Int} (hx : x ∈ mn) {g : Nat} (hg : x.1.p = some g) {j : Nat} (hj : j < x.2.length) : RowAt W g (0 + j * 1) [.int .i64 (x.2.getD j 0)] := by
  obtain ⟨⟨p, cap, junk⟩, l⟩ := x
  obtain rfl : p = some g := hg
  have hin : (g, Obj.cells (ci l ++ junk).toArray 3 (0, 0)) ∈ mn.reverse.flatMap fun p => (p.1.bx 3 (ci p.2)).blk :=
    List.mem_flatMap.2 ⟨_, List.mem_reverse.2 hx, List.mem_cons_self ..⟩
  have hrow := RowAt.of_grp hp k hk hin
  refine ⟨hrow.lt, fun m u hu => ?_⟩
  have hm : m = 0 := by have := (List.getElem?_eq_some_iff.1 hu).1; simp at this; omega
  subst hm
  have h2 := hrow.get j u (by
    show (ci l ++ junk)[j]? = some u
    have hj' : j < l.length := hj
    rw [List.getElem?_append_left (by simpa using hj'), List.getElem?_map, List.getElem?_eq_getElem hj', ← hu]
    show some _ = some (Value.int .i64 (l.getD j 0))
    rw [List.getD_eq_getElem?_getD, List.getElem?_eq_getElem hj']; rfl)
  rw [Nat.mul_one, Nat.add_zero]
  exact h2
end
theorem mkB_perm {mk mk' : Made} (h : mk'.Perm mk) : (mkB mk').blk.Perm (mkB mk).blk :=
  ((List.reverse_perm mk').trans (h.trans (List.reverse_perm mk).symm)).flatMap_right _
theorem numB_perm {mn mn' : MadeN} (h : mn'.Perm mn) : (numB mn').blk.Perm (numB mn).blk :=
  ((List.reverse_perm mn').trans (h.trans (List.reverse_perm mn).symm)).flatMap_right _
section
variable {r : Option Nat} {n : Nat} {W0 : World} {N : Nat} {D : List Deferred} {ops : List Oper} {Q : Exit → Act → World → Prop} {o : Oper} {rest : List Oper} {env : Env} {bxs : List Bx}
/-- slices.SortFunc of all rings but the first (three rings at most). -/
theorem wl_sortP (k i : Nat) {c : Call} {f : Operand} {d g cV off m : Nat} {jV : List Value} {mp : MadeP}
    (hg : guardE ops N env o = some true) (hd : o.dst = some d) (ho : o.op = .call c) (hc : c.callee = .value f) (hf : evO N env f = some (.func (.func 93) #[] #[])) (ha : evArgs (evO N env) c.args.toList = some [.slice (some ⟨g, off, none⟩) (m - 1) (cV - 1), .func (.func 94) #[] #[]])
    (hk : nth bxs k = some ⟨g, 119, prCells mp ++ jV, true, none⟩) (hi : nth bxs i = some (mkB (mp.map (·.1)))) (hki : k ≠ i) (hm : m = 1 ∨ m = 2 ∨ m = 3) (hoff : m = 3 → off = 2) (hml : mp.length = m) (hok : ∀ p ∈ mp, p.1.1.p ≠ none ∧ p.2.1.p ≠ none ∧ 0 < p.1.2.length)
    (h : WL r n Tryz.prog N D ops Q rest ((d, .tuple #[]) :: env) (Hp W0 (bxs.set k ⟨g, 119, prCells (sort2M mp) ++ jV, true, none⟩))) : WL r n Tryz.prog N D ops Q (o :: rest) env (Hp W0 bxs) := by
  have same : sort2M mp = mp → m ≤ 2 → WL r n Tryz.prog N D ops Q (o :: rest) env (Hp W0 bxs) := fun e h2 => by
    rw [e] at h
    have e2 : bxs.set k ⟨g, 119, prCells mp ++ jV, true, none⟩ = bxs := by
      have h1 : bxs[k]? = some ⟨g, 119, prCells mp ++ jV, true, none⟩ := by rw [← nth_eq]; exact hk
      exact set_same_get h1
    rw [e2] at h
    exact wl_call1 (g := 93) (capt := []) hg hd ho hc hf ha (by kernel_rfl) (fun W _ => sortF1_gives W _ (m - 1) (cV - 1) (by omega)) h
  match mp, hml with
  | [x], hml => exact same rfl (by simp at hml; omega)
  | [x, y], hml => exact same rfl (by simp at hml; omega)
  | [], hml => simp at hml; omega
  | _ :: _ :: _ :: _ :: _, hml => simp at hml; omega
  | [x, y, z], hml =>
    have hm3 : m = 3 := by simp at hml; omega
    subst hm3
    obtain rfl := hoff rfl
    obtain ⟨⟨⟨py, cy, jy⟩, ly⟩, ⟨⟨qy, dy, ky⟩, oy⟩⟩ := y
    obtain ⟨⟨⟨pz, cz, jz⟩, lz⟩, ⟨⟨qz, dz, kz⟩, oz⟩⟩ := z
    obtain ⟨hy1, hy2, hy3⟩ := hok ((⟨py, cy, jy⟩, ly), (⟨qy, dy, ky⟩, oy)) (by simp)
    obtain ⟨hz1, hz2, hz3⟩ := hok ((⟨pz, cz, jz⟩, lz), (⟨qz, dz, kz⟩, oz)) (by simp)
    cases py with
    | none => exact absurd rfl hy1
    | some gy =>
    cases qy with
    | none => exact absurd rfl hy2
    | some ny =>
    cases pz with
    | none => exact absurd rfl hz1
    | some gz =>
    cases qz with
    | none => exact absurd rfl hz2
    | some nz =>
    have hk' : bxs[k]? = some ⟨g, 119, prV x ++ ([slv (some ⟨gy, 0, none⟩) ly.length cy, slv (some ⟨ny, 0, none⟩) oy.length dy, slv (some ⟨gz, 0, none⟩) lz.length cz, slv (some ⟨nz, 0, none⟩) oz.length dz] ++ jV), true, none⟩ := by rw [← nth_eq]; exact hk
    have hi' : bxs[i]? = some (mkB [x.1, (⟨some gy, cy, jy⟩, ly), (⟨some gz, cz, jz⟩, lz)]) := by rw [← nth_eq]; exact hi
    refine wl_callN (X := Unit) (val := fun _ => .tuple #[]) (Φ := fun _ => True) (capt := []) k (B := ⟨g, 119, prV x ++ ([slv (some ⟨gy, 0, none⟩) ly.length cy, slv (some ⟨ny, 0, none⟩) oy.length dy, slv (some ⟨gz, 0, none⟩) lz.length cz, slv (some ⟨nz, 0, none⟩) oz.length dz] ++ jV), true, none⟩) (L1 := []) (L2 := []) (b := g)
      (ob := .cells (prV x ++ ([slv (some ⟨gy, 0, none⟩) ly.length cy, slv (some ⟨ny, 0, none⟩) oy.length dy, slv (some ⟨gz, 0, none⟩) lz.length cz, slv (some ⟨nz, 0, none⟩) oz.length dz] ++ jV)).toArray 119 (0, 0))
      (fun _ => ⟨g, 119, prV x ++ (ord2 (cmpS (sd lz 0) (sd ly 0)) [slv (some ⟨gy, 0, none⟩) ly.length cy, slv (some ⟨ny, 0, none⟩) oy.length dy] [slv (some ⟨gz, 0, none⟩) lz.length cz, slv (some ⟨nz, 0, none⟩) oz.length dz] ++ jV), true, none⟩) (g' := fun _ => g)
      (o' := fun _ => .cells (prV x ++ (ord2 (cmpS (sd lz 0) (sd ly 0)) [slv (some ⟨gy, 0, none⟩) ly.length cy, slv (some ⟨ny, 0, none⟩) oy.length dy] [slv (some ⟨gz, 0, none⟩) lz.length cz, slv (some ⟨nz, 0, none⟩) oz.length dz] ++ jV)).toArray 119 (0, 0))
      hg hd ho hc hf ha (by kernel_rfl) (by rw [nth_eq]; exact hk') rfl (fun _ _ => rfl) (fun W hp => ?_) (fun _ _ => ?_)
    · obtain ⟨ry, my⟩ := ring_grp hp i hi (x := (⟨some gy, cy, jy⟩, ly)) (by simp) rfl
      obtain ⟨rz, mz⟩ := ring_grp hp i hi (x := (⟨some gz, cz, jz⟩, lz)) (by simp) rfl
      have ney : gy ≠ g := fun e => hp.own.apart k i _ _ hk' hi' hki _ (List.mem_cons_self ..) _ my e.symm
      have nez : gz ≠ g := fun e => hp.own.apart k i _ _ hk' hi' hki _ (List.mem_cons_self ..) _ mz e.symm
      refine sortF2_gives W g 2 (cV - 1) (prV x) jV (some ⟨gy, 0, none⟩) (some ⟨ny, 0, none⟩) (some ⟨gz, 0, none⟩) (some ⟨nz, 0, none⟩) ly.length oy.length lz.length oz.length cy dy cz dz _ rfl (hp.own.cell k _ hk' (g, _) (List.mem_cons_self ..)).1 fun W' hkp => ?_
      exact canon2_gives W' (some ⟨gz, 0, none⟩) (some ⟨gy, 0, none⟩) (some ⟨nz, 0, none⟩) (some ⟨ny, 0, none⟩) cz cy oz.length oy.length dz dy lz ly hz3 hy3 (ringP_keep rz hkp (fun b off e => by cases e; exact nez)) (ringP_keep ry hkp (fun b off e => by cases e; exact ney))
    · have e : prCells (sort2M [x, ((⟨some gy, cy, jy⟩, ly), (⟨some ny, dy, ky⟩, oy)), ((⟨some gz, cz, jz⟩, lz), (⟨some nz, dz, kz⟩, oz))]) ++ jV = prV x ++ (ord2 (cmpS (sd lz 0) (sd ly 0)) [slv (some ⟨gy, 0, none⟩) ly.length cy, slv (some ⟨ny, 0, none⟩) oy.length dy] [slv (some ⟨gz, 0, none⟩) lz.length cz, slv (some ⟨nz, 0, none⟩) oz.length dz] ++ jV) := by
        show prCells (if cmpS (sd lz 0) (sd ly 0) < 0 then _ else _) ++ jV = _
        unfold ord2
        by_cases hx : cmpS (sd lz 0) (sd ly 0) < 0
        · rw [if_pos hx, if_pos hx]; rfl
        · rw [if_neg hx, if_neg hx]; rfl
      rw [e] at h
      exact h
end
theorem repL_ci (m : Nat) : repL (Value.int .i64 0).cells.toList m = ci (List.replicate m 0) := by
  induction m with
  | zero => rfl
  | succ m ih =>
    show [Value.int .i64 0] ++ repL (Value.int .i64 0).cells.toList m = _
    rw [ih, List.replicate_succ]; rfl
def fill : List Int → Nat → List Int → List Int
  | ns, _, [] => ns
  | ns, n, o :: os => fill (ns.set o.toNat (n : Int)) (n + 1) os
theorem fill_len : ∀ (os ns : List Int) (n : Nat), (fill ns n os).length = ns.length
  | [], _, _ => rfl
  | o :: os, ns, n => by
    show (fill (ns.set o.toNat (n : Int)) (n + 1) os).length = _
    rw [fill_len os, List.length_set]
theorem fill_snoc : ∀ (os ns : List Int) (n : Nat) (o : Int), fill ns n (os ++ [o]) = (fill ns n os).set o.toNat ((n + os.length : Nat) : Int)
  | [], _, _, _ => rfl
  | a :: os, ns, n, o => by
    show fill (ns.set a.toNat (n : Int)) (n + 1) (os ++ [o]) = (fill (ns.set a.toNat (n : Int)) (n + 1) os).set _ _
    rw [fill_snoc os, List.length_cons]
    congr 2; omega
theorem fill_other : ∀ (os ns : List Int) (n i : Nat), (∀ o ∈ os, o.toNat ≠ i) → (fill ns n os).getD i 0 = ns.getD i 0
  | [], _, _, _, _ => rfl
  | a :: os, ns, n, i, h => by
    show (fill (ns.set a.toNat (n : Int)) (n + 1) os).getD i 0 = _
    rw [fill_other os _ _ _ fun o ho => h o (List.mem_cons_of_mem _ ho), List.getD_eq_getElem?_getD, List.getElem?_set_ne (h a (List.mem_cons_self ..)), ← List.getD_eq_getElem?_getD]
theorem fill_at : ∀ (os ns : List Int) (n : Nat), (os.map Int.toNat).Nodup → (∀ o ∈ os, o.toNat < ns.length) → ∀ j o, os[j]? = some o → (fill ns n os).getD o.toNat 0 = ((n + j : Nat) : Int)
  | [], _, _, _, _, j, o, h => by simp at h
  | a :: os, ns, n, hd, hl, 0, o, h => by
    obtain rfl : a = o := by simpa using h
    obtain ⟨h1, h2⟩ := List.nodup_cons.1 hd
    show (fill (ns.set a.toNat (n : Int)) (n + 1) os).getD a.toNat 0 = _
    rw [fill_other os _ _ _ fun o ho e => h1 (List.mem_map.2 ⟨o, ho, e⟩), List.getD_eq_getElem?_getD, List.getElem?_set_self (hl a (List.mem_cons_self ..))]
    rfl
  | a :: os, ns, n, hd, hl, j + 1, o, h => by
    obtain ⟨h1, h2⟩ := List.nodup_cons.1 hd
    show (fill (ns.set a.toNat (n : Int)) (n + 1) os).getD o.toNat 0 = _
    rw [fill_at os _ _ h2 (fun o ho => by rw [List.length_set]; exact hl o (List.mem_cons_of_mem _ ho)) j o (by simpa using h)]
    congr 1; omega
def numsOf (rs : List (List Sd)) : List Int := fill (List.replicate (tot rs) 0) 0 (olds rs)
theorem numsOf_len (rs : List (List Sd)) : (numsOf rs).length = tot rs := by rw [numsOf, fill_len, List.length_replicate]
theorem olds_mem (rs : List (List Sd)) {o : Int} (h : o ∈ olds rs) : 0 ≤ o ∧ o < (tot rs : Nat) := by
  have h1 := (olds_perm rs).mem_iff.1 h
  unfold oldN at h1
  obtain ⟨i, hi, rfl⟩ := List.mem_map.1 h1
  have := List.mem_range.1 hi
  omega
theorem olds_len (rs : List (List Sd)) : (olds rs).length = tot rs := by rw [(olds_perm rs).length_eq, oldN_len]
theorem olds_nodup (rs : List (List Sd)) : ((olds rs).map Int.toNat).Nodup := by
  have h : ((oldN 0 (tot rs)).map Int.toNat).Nodup := by
    have e : (oldN 0 (tot rs)).map Int.toNat = List.range (tot rs) := by
      unfold oldN
      rw [List.map_map]
      conv => rhs; rw [← List.map_id (List.range (tot rs))]
      refine List.map_congr_left fun i _ => ?_
      show (((0 + i : Nat) : Int)).toNat = i
      omega
    rw [e]; exact List.nodup_range
  exact ((olds_perm rs).map _).nodup_iff.2 h
/-- The new number of an old one. -/
theorem numsOf_at {rs : List (List Sd)} {j : Nat} (hj : j < tot rs) : ∃ o : Nat, o < tot rs ∧ (olds rs)[j]? = some (o : Int) ∧ (numsOf rs).getD o 0 = (j : Int) := by
  have hl := olds_len rs
  have h1 : (olds rs)[j]? = some (olds rs)[j] := List.getElem?_eq_getElem (by omega)
  obtain ⟨h2, h3⟩ := olds_mem rs (List.mem_of_getElem? h1)
  refine ⟨(olds rs)[j].toNat, by omega, by rw [h1]; congr 1; omega, ?_⟩
  have := fill_at (olds rs) (List.replicate (tot rs) 0) 0 (olds_nodup rs) (fun o ho => by have := olds_mem rs ho; rw [List.length_replicate]; omega) j _ h1
  rw [Nat.zero_add] at this
  exact this
end Go.Proofs.YtnpfkmbcejgnjaaGreatDoor
namespace Go.Proofs.YtnpfkmbcejgnjaaGreatDoor
open Go Go.RowKit Go.Am Go.ChangeShapes Go.WideShapes Go.Deep
set_option maxRecDepth 10000
theorem c42 : Tryz.prog.cellsOf 42 = 7 := by kernel_rfl
theorem c27 : Tryz.prog.cellsOf 27 = 1 := by kernel_rfl
theorem c24 : Tryz.prog.cellsOf 24 = 1 := by kernel_rfl
theorem c22 : Tryz.prog.cellsOf 22 = 1 := by kernel_rfl
theorem c3 : Tryz.prog.cellsOf 3 = 1 := by kernel_rfl
theorem c4 : Tryz.prog.cellsOf 4 = 1 := by kernel_rfl
theorem bulk_one {H : Type} (d : DataW H) : 1 ≤ Rows.uptoBulk d := by
  cases d with
  | lit l => cases l <;> simp [Rows.uptoBulk]
  | nil => simp [Rows.uptoBulk]
  | ptr d => simp [Rows.uptoBulk]
  | slice elems spare => simp [Rows.uptoBulk]
  | agg parts => simp [Rows.uptoBulk]
  | iface t d => simp [Rows.uptoBulk]
  | map entries => simp [Rows.uptoBulk]
  | held h => simp [Rows.uptoBulk]
theorem bulk_len {H : Type} (l : List (DataW H)) : l.length ≤ Rows.uptoBulkAll l := by
  induction l with
  | nil => simp [Rows.uptoBulkAll]
  | cons x r ih => have := bulk_one x; simp only [Rows.uptoBulkAll, List.length_cons]; omega
theorem bulk_sum {H : Type} {A : Type} (L : A → Nat) (D : A → DataW H) (is : List A) (h : ∀ i, i ∈ is → L i + 1 ≤ Rows.uptoBulk (D i)) :
    (is.map L).sum + is.length ≤ Rows.uptoBulkAll (is.map D) := by
  induction is with
  | nil => simp [Rows.uptoBulkAll]
  | cons x r ih =>
    have h1 := h x (.head _)
    have h2 := ih fun i hi => h i (.tail _ hi)
    simp only [List.map_cons, List.sum_cons, List.length_cons, Rows.uptoBulkAll]
    omega
theorem bulk_slice {H : Type} (e s : List (DataW H)) : Rows.uptoBulkAll e + 1 ≤ Rows.uptoBulk (.slice e s) := by
  simp only [Rows.uptoBulk]; omega
theorem cell_plain {w : World} {a : Addr} {v : Value} (h : w.cell? a = some v) : a.spot = none ∧ a.block < w.heap.size := by
  unfold World.cell? at h
  split at h
  · rename_i hb
    refine ⟨?_, ?_⟩
    · cases hs : a.spot with
      | none => rfl
      | some k => simp [hs] at h
    · exact (Array.getElem?_eq_some_iff.1 hb).1
  · cases h
theorem open_row {w : World} {base n : Nat} {a : Addr} {cs : List Value} (h : w.cells? base a n = some cs) (hn : 0 < n) : a.spot = none ∧ RowAt w a.block a.off cs := by
  obtain ⟨_, hl, hg⟩ := World.cells?_some h
  have h0 := hg 0 hn
  have hv : cs[0]? = some cs[0] := List.getElem?_eq_getElem (by omega)
  rw [hv] at h0
  have hp := cell_plain h0
  have hs : a.spot = none := by simpa [Addr.add] using hp.1
  refine ⟨hs, ⟨by simpa [Addr.add] using hp.2, fun j x hx => ?_⟩⟩
  have hj : j < n := by rw [← hl]; exact (List.getElem?_eq_some_iff.1 hx).1
  rw [← hx, ← hg j hj]
  congr 1
  unfold Addr.add
  split
  · subst_vars; cases a; simp_all
  · rfl
theorem add_off {a : Addr} (hs : a.spot = none) (n : Nat) : a.add n = ⟨a.block, a.off + n, none⟩ := by
  unfold Addr.add
  split
  · subst_vars; cases a; simp_all
  · rfl
/-- A side whose whole numbers are whole numbers of the language. -/
def Sd.in64 (s : Sd) : Prop := ∀ z ∈ [s.x, s.y, s.rise, s.run, s.plate, s.over], -9223372036854775808 ≤ z ∧ z ≤ 9223372036854775807
section
variable {H : Type} {enc : TypeId × Value → H} {w : World} {base : Nat} {spare : Nat → Bool} {held : Bool} {fuel : Nat} {cs : List Value} {x : DataW H × List MemPlace}
theorem open_sd (h : DataW.trod enc Tryz.prog w base spare held fuel 42 cs = some x) : ∃ s : Sd, cs = s.cells ∧ s.in64 := by
  obtain ⟨xs, m, rfl, rfl, hl, hx, hf⟩ := DataW.trod_struct Tryz.underlying42 h
  rw [c42] at hl
  have g : ∀ (i : Nat) (o t : Nat) (f : Field), (match Tryz.prog.underlying 42 with | some (.struct fs) => fs[i]? | _ => none) = some f → f.offset = o → f.type = t →
      ∃ y, DataW.trod enc Tryz.prog w base spare held m t ((cs.drop o).take (Tryz.prog.cellsOf t)) = some y := by
    intro i o t f hi ho ht
    rw [Tryz.underlying42] at hi
    subst ho; subst ht
    have h1 := hf i f hi
    have h2 : i < xs.length := by rw [hx]; exact (Array.getElem?_eq_some_iff.1 hi).1
    rw [List.getElem?_eq_getElem h2] at h1
    exact ⟨_, h1⟩
  match cs, hl with
  | [v0, v1, v2, v3, v4, v5, v6], _ =>
    have gi : ∀ (i o : Nat) (f : Field) (v : Value), (match Tryz.prog.underlying 42 with | some (.struct fs) => fs[i]? | _ => none) = some f → f.offset = o → f.type = 3 → ([v0, v1, v2, v3, v4, v5, v6].drop o).take 1 = [v] →
        ∃ z, v = .int .i64 z ∧ -9223372036854775808 ≤ z ∧ z ≤ 9223372036854775807 := by
      intro i o f v h1 h2 h3 h4
      obtain ⟨y, hy⟩ := g i o 3 f h1 h2 h3
      rw [c3, h4] at hy
      obtain ⟨z, e1, _, hw⟩ := DataW.trod_int Tryz.underlying3 hy
      refine ⟨z, by simpa using e1, ?_⟩
      simpa [Lit.wf, IntKind.min, IntKind.max, IntKind.signed, IntKind.bits] using hw
    obtain ⟨z0, rfl, b0⟩ := gi 0 0 _ v0 (by rw [Tryz.underlying42]; rfl) rfl rfl rfl
    obtain ⟨z1, rfl, b1⟩ := gi 1 1 _ v1 (by rw [Tryz.underlying42]; rfl) rfl rfl rfl
    obtain ⟨z2, rfl, b2⟩ := gi 2 2 _ v2 (by rw [Tryz.underlying42]; rfl) rfl rfl rfl
    obtain ⟨z3, rfl, b3⟩ := gi 3 3 _ v3 (by rw [Tryz.underlying42]; rfl) rfl rfl rfl
    obtain ⟨z5, rfl, b5⟩ := gi 5 5 _ v5 (by rw [Tryz.underlying42]; rfl) rfl rfl rfl
    obtain ⟨z6, rfl, b6⟩ := gi 6 6 _ v6 (by rw [Tryz.underlying42]; rfl) rfl rfl rfl
    obtain ⟨y4, hy4⟩ := g 4 4 4 _ (by rw [Tryz.underlying42]; rfl) rfl rfl
    rw [c4] at hy4
    obtain ⟨z4, e4, _⟩ := DataW.trod_bool Tryz.underlying4 hy4
    obtain rfl : v4 = .bool z4 := by simpa using e4
    refine ⟨⟨z0, z1, z2, z3, z4, z5, z6⟩, rfl, ?_⟩
    intro z hz
    simp only [List.mem_cons, List.not_mem_nil, or_false] at hz
    rcases hz with rfl | rfl | rfl | rfl | rfl | rfl <;> assumption
theorem open_ring (h : DataW.trod enc Tryz.prog w base spare held fuel 27 cs = some x) :
    ∃ (p : Option Addr) (cap : Nat) (l : List Sd), cs = [slv p l.length cap] ∧ RingP w p l ∧ (∀ s ∈ l, s.in64) ∧ l.length + 1 ≤ Rows.uptoBulk x.1 := by
  rcases open_slice Tryz.underlying27 h with ⟨rfl, rfl⟩ | ⟨a, len, cap, m, n, D, Pl, rfl, _, hl, _, hm, rfl, hx⟩
  · exact ⟨none, 0, [], rfl, .inl rfl, (fun _ hs => by cases hs), bulk_one _⟩
  have hlm : len ≤ m := by rw [hm]; split <;> omega
  obtain ⟨S, hS⟩ := choose_lt (α := Sd) (n := len) (p := fun i s => w.cells? base (a.add (i * 7)) 7 = some s.cells ∧ s.in64) fun i hi => by
    obtain ⟨cs', h1, h2⟩ := hx i (by omega)
    rw [c42] at h1
    obtain ⟨s, rfl, h3⟩ := open_sd h2
    exact ⟨s, h1, h3⟩
  refine ⟨some a, cap, (List.range len).map S, by simp, ?_, ?_, ?_⟩
  · by_cases h0 : len = 0
    · subst h0; exact .inl rfl
    · have hs : a.spot = none := by simpa [Addr.add] using (open_row (hS 0 (by omega)).1 (by decide)).1
      refine .inr ⟨a.block, a.off, by cases a; simp_all, ⟨fun i s hi => ?_⟩⟩
      simp only [List.getElem?_map, Option.map_eq_some_iff] at hi
      obtain ⟨k, hk, rfl⟩ := hi
      have hk' : i < len ∧ k = i := by
        have := List.getElem?_eq_some_iff.1 hk
        obtain ⟨h1, h2⟩ := this
        simp at h1 h2
        exact ⟨h1, h2.symm⟩
      obtain ⟨h1, rfl⟩ := hk'
      have := (open_row (hS k h1).1 (by decide)).2
      rwa [add_off hs] at this
  · intro s hs
    simp only [List.mem_map, List.mem_range] at hs
    obtain ⟨i, hi, rfl⟩ := hs
    exact (hS i hi).2
  · have h1 := bulk_len ((List.range len).map D)
    have h2 := bulk_slice ((List.range len).map D) ((List.range (m - len)).map fun j => D (len + j))
    simp only [List.length_map, List.length_range] at h1 ⊢
    omega
theorem open_rings (h : DataW.trod enc Tryz.prog w base spare held fuel 22 cs = some x) :
    ∃ (p : Option Addr) (cap : Nat) (rs : List (List Sd)), cs = [slv p rs.length cap] ∧ RingsP w p rs ∧ (∀ l ∈ rs, ∀ s ∈ l, s.in64) ∧ tot rs + rs.length + 1 ≤ Rows.uptoBulk x.1 := by
  rcases open_slice Tryz.underlying22 h with ⟨rfl, rfl⟩ | ⟨a, len, cap, m, n, D, Pl, rfl, _, hl, _, hm, rfl, hx⟩
  · exact ⟨none, 0, [], rfl, .inl rfl, (fun _ hs => by cases hs), bulk_one _⟩
  have hlm : len ≤ m := by rw [hm]; split <;> omega
  obtain ⟨L, hL⟩ := choose_lt (α := List Sd) (n := len) (p := fun i l => ∃ q c, w.cells? base (a.add (i * 1)) 1 = some [slv q l.length c] ∧ RingP w q l ∧ (∀ s ∈ l, s.in64) ∧ l.length + 1 ≤ Rows.uptoBulk (D i)) fun i hi => by
    obtain ⟨cs', h1, h2⟩ := hx i (by omega)
    rw [c27] at h1
    obtain ⟨q, c, l, rfl, h3, h4, h5⟩ := open_ring h2
    exact ⟨l, q, c, h1, h3, h4, h5⟩
  refine ⟨some a, cap, (List.range len).map L, by simp, ?_, ?_, ?_⟩
  · by_cases h0 : len = 0
    · subst h0; exact .inl rfl
    · obtain ⟨q0, c0, h00, _⟩ := hL 0 (by omega)
      have hs : a.spot = none := by simpa [Addr.add] using (open_row h00 (by decide)).1
      refine .inr ⟨a.block, a.off, by cases a; simp_all, ⟨fun i l hi => ?_⟩⟩
      simp only [List.getElem?_map, Option.map_eq_some_iff] at hi
      obtain ⟨k, hk, rfl⟩ := hi
      have hk' : i < len ∧ k = i := by
        obtain ⟨h1, h2⟩ := List.getElem?_eq_some_iff.1 hk
        simp at h1 h2
        exact ⟨h1, h2.symm⟩
      obtain ⟨h1, rfl⟩ := hk'
      obtain ⟨q, c, h2, h3, _⟩ := hL k h1
      have := (open_row h2 (by decide)).2
      rw [add_off hs] at this
      exact ⟨q, c, this, h3⟩
  · intro l hl'
    simp only [List.mem_map, List.mem_range] at hl'
    obtain ⟨i, hi, rfl⟩ := hl'
    obtain ⟨_, _, _, _, h3, _⟩ := hL i hi
    exact h3
  · have h1 := bulk_sum (fun i => (L i).length) D (List.range len) fun i hi => by
      obtain ⟨_, _, _, _, _, h3⟩ := hL i (by simpa using hi)
      exact h3
    have h2 := bulk_slice ((List.range len).map D) ((List.range (m - len)).map fun j => D (len + j))
    simp only [tot, List.map_map, List.length_map, List.length_range] at h1 ⊢
    have h3 : (List.range len).map (List.length ∘ L) = (List.range len).map fun i => (L i).length := rfl
    rw [h3]
    show _ ≤ Rows.uptoBulk (DataW.slice _ _)
    omega
end
section
variable {H : Type} {enc : TypeId × Value → H} {w : World} {base : Nat} {spare : Nat → Bool} {held : Bool} {v : Value} {d : DataW H} {ps : List MemPlace}
theorem open_plan {r : Reach} {b0 : Nat} (hv : Value.okWide Tryz.prog w r b0 24 v) (h : DataW.Trod enc Tryz.prog w base spare held 24 v d ps) :
    ∃ (p : Option Addr) (cap : Nat) (rs : List (List Sd)), v = planV p rs.length cap ∧ RingsP w p rs ∧ (∀ l ∈ rs, ∀ s ∈ l, s.in64) ∧ tot rs + rs.length + 2 ≤ Rows.uptoBulk d := by
  obtain ⟨cs, rfl, hc⟩ := okWide_struct Tryz.underlying24 hv
  obtain ⟨fuel, hf⟩ := h
  obtain ⟨xs, m, rfl, hx, hl, hn, hg⟩ := DataW.trod_struct Tryz.underlying24 hf
  rw [c24] at hc
  obtain ⟨y0, rfl⟩ : ∃ y, xs = [y] := by
    match xs, hn with
    | [y], _ => exact ⟨y, rfl⟩
  have h0 : DataW.trod enc Tryz.prog w base spare held m 22 (List.take (Tryz.prog.cellsOf 22) (List.drop 0 cs.toList)) = some y0 := hg 0 _ rfl
  rw [c22] at h0
  obtain ⟨c0, rfl⟩ : ∃ c, cs = #[c] := by
    obtain ⟨l⟩ := cs
    match l, hc with
    | [c], _ => exact ⟨c, rfl⟩
  obtain ⟨p, cap, rs, e1, e2, e3, e4⟩ := open_rings h0
  simp only [Prod.mk.injEq] at hx
  obtain ⟨rfl, _⟩ := hx
  refine ⟨p, cap, rs, ?_, e2, e3, ?_⟩
  · have : c0 = slv p rs.length cap := by simpa [Value.cells] using e1
    rw [this]
  · simp only [List.map_cons, List.map_nil, Rows.uptoBulk, Rows.uptoBulkAll]
    have : y0.1 = (y0 : DataW H × List MemPlace).1 := rfl
    omega
end
end Go.Proofs.YtnpfkmbcejgnjaaGreatDoor
namespace Go.Proofs.YtnpfkmbcejgnjaaGreatDoor
open Go Go.RowKit Go.Am Go.ChangeShapes Go.WideShapes Go.Deep
/-- Each ring of a plan's row has room for its sides. -/
def RoomP (W : World) (p : Option Addr) (n : Nat) : Prop := ∀ b off, p = some ⟨b, off, none⟩ → ∀ k q m c, k < n → RowAt W b (off + k * 1) [slv q m c] → m ≤ c
section
variable {H : Type} {enc : TypeId × Value → H} {w : World} {base : Nat} {spare : Nat → Bool} {held : Bool}
theorem ring_room {fuel : Nat} {cs : List Value} {x : DataW H × List MemPlace} (h : DataW.trod enc Tryz.prog w base spare held fuel 27 cs = some x) {q : Option Addr} {m c : Nat} (e : cs = [slv q m c]) : m ≤ c := by
  rcases open_slice Tryz.underlying27 h with ⟨rfl, rfl⟩ | ⟨a, len, cap', m', n', D, Pl, rfl, _, hl, _, hm, rfl, hx⟩
  · injection e with e _
    injection e with _ e1 e2
    omega
  · injection e with e _
    injection e with _ e1 e2
    omega
theorem plan_room {p : Option Addr} {n cap : Nat} {d : DataW H} {ps : List MemPlace} (h : DataW.Trod enc Tryz.prog w base spare held 24 (planV p n cap) d ps) : RoomP w p n := by
  obtain ⟨fuel, hf⟩ := h
  obtain ⟨xs, m, rfl, hx, hl, hn, hg⟩ := DataW.trod_struct Tryz.underlying24 hf
  obtain ⟨y0, rfl⟩ : ∃ y, xs = [y] := by
    match xs, hn with
    | [y], _ => exact ⟨y, rfl⟩
  have h0 : DataW.trod enc Tryz.prog w base spare held m 22 (List.take (Tryz.prog.cellsOf 22) (List.drop 0 (planV p n cap).cells.toList)) = some y0 := hg 0 _ rfl
  rw [c22] at h0
  have h1 : DataW.trod enc Tryz.prog w base spare held m 22 [slv p n cap] = some y0 := h0
  rintro b off rfl k q mm c hk hrow
  rcases open_slice Tryz.underlying22 h1 with ⟨e, _⟩ | ⟨a, len, cap', m', n', D, Pl, e, _, hl', _, hm, rfl, hxx⟩
  · injection e with e _
    injection e with e1 e2 e3
    omega
  · injection e with e _
    injection e with e1 e2 e3
    have e1 := Option.some.inj e1
    subst e1; subst e2
    have hlm : n ≤ m' := by rw [hm]; split <;> omega
    obtain ⟨cs', h2, h3⟩ := hxx k (by omega)
    rw [c27] at h2
    have hs := open_row h2 (by decide)
    rw [add_off rfl] at hs
    obtain ⟨_, hl2, _⟩ := World.cells?_some h2
    match cs', hl2 with
    | [v], _ =>
      have h4 := hs.2.get 0 v rfl
      have h5 := hrow.get 0 (slv q mm c) rfl
      have h6 : some (slv q mm c) = some v := by rw [← h4, ← h5]
      exact ring_room h3 (by rw [Option.some.inj h6])
end
theorem MadeOK.tail {x : Vec × List Sd} {l : Made} {rs : List (List Sd)} (h : MadeOK (x :: l) rs) : MadeOK (x :: l.reverse) (rs.take 1 ++ (rs.drop 1).reverse) := by
  refine ⟨?_, fun p hp => h.ok p ?_⟩
  · rw [← h.eq]
    simp
  · rcases List.mem_cons.1 hp with rfl | hp
    · exact List.mem_cons_self ..
    · exact List.mem_cons_of_mem _ (List.mem_reverse.1 hp)
section
variable {r : Option Nat} {n : Nat} {W0 : World} {N : Nat} {D : List Deferred} {ops : List Oper} {Q : Exit → Act → World → Prop} {o : Oper} {rest : List Oper} {env : Env} {bxs : List Bx}
end
theorem ringAt_drop {W : World} {b o : Nat} {l : List Sd} (h : RingAt W b o l) (t : Nat) : RingAt W b (o + t * 7) (l.drop t) := ⟨fun i s hs => by
  rw [List.getElem?_drop] at hs
  have := h.get (t + i) s hs
  rw [show o + t * 7 + i * 7 = o + (t + i) * 7 by omega]
  exact this⟩
theorem ringAt_take {W : World} {b o : Nat} {l : List Sd} (h : RingAt W b o l) (t : Nat) : RingAt W b o (l.take t) := ⟨fun i s hs => by
  have hi : i < t := by
    have := (List.getElem?_eq_some_iff.1 hs).1
    rw [List.length_take] at this; omega
  rw [List.getElem?_take_of_lt hi] at hs
  exact h.get i s hs⟩
abbrev cb (l : List Bool) : List Value := l.map Value.bool
end Go.Proofs.YtnpfkmbcejgnjaaGreatDoor
namespace Go.Proofs.YtnpfkmbcejgnjaaGreatDoor
open Go Go.RowKit Go.Am
set_option maxRecDepth 10000
-- BOXES 3
section
variable {r : Option Nat} {n : Nat} {P : Program} {W0 : World} {N : Nat} {D : List Deferred} {ops : List Oper} {Q : Exit → Act → World → Prop} {o : Oper} {rest : List Oper} {env : Env} {bxs : List Bx} {A A2 : World → Prop} {R : Act → World → Prop}
/-- x[:h:m] -/
theorem slice_hm_run {T : Tbl} {i : TI} {ρ : Operand → Value} {t : TypeId} {x y y' : Operand} {k k' : IntKind} {a : Option Addr} {len cap h m : Nat} (hT : okB P T = true) (ho : o.op = .slice t x none (some y) (some y')) (ht : find T t = some i) (hk : i.kind = 2) (hx : ρ x = .slice a len cap) (hy : ρ y = .int k (h : Nat)) (hy' : ρ y' = .int k' (m : Nat)) (h1 : h ≤ m) (h2 : m ≤ cap) (W : World) :
    (execOp ρ o).run P W = .ok (.value (.slice a h m)) W := by
  obtain ⟨hu, hs⟩ := row_kind2 (find_row hT ht) hk
  have hb : (Instr.sliceBounds true len cap none (some (.int k (h : Nat))) (some (.int k' (m : Nat)))).run P W = .ok (0, h, m) W := by
    simp [Instr.sliceBounds, Instr.sliceBound, asIntOf, h1, h2]
  simp only [execOp, ho, Instr.sliceAt, Sem.run_bind, run_underlying hu, Result.andThen_ok, Instr.slice, hx, hy, hy', Option.map_none, Option.map_some, hb, sizeB_run hs, Sem.run_pure]
  have e : (if m = 0 then a else a.map (·.add (0 * i.elemSize))) = a := by
    split
    · rfl
    · cases a with
      | none => rfl
      | some a => simp [Addr.add]
  rw [e]; rfl
theorem wq_slice_hm {T : Tbl} {i : TI} {d : Nat} {t : TypeId} {x y y' : Operand} {k k' : IntKind} {a : Option Addr} {len cap : Nat} {z z' : Int} (h m : Nat) (hT : okB P T = true) (hg : guardE ops N env o = some true) (hd : o.dst = some d) (ho : o.op = .slice t x none (some y) (some y'))
    (ht : find T t = some i) (hk : i.kind = 2) (hx : evO N env x = some (.slice a len cap)) (hy : evO N env y = some (.int k z)) (hy' : evO N env y' = some (.int k' z')) (hz : z = h) (hz' : z' = m) (h1 : h ≤ m) (h2 : m ≤ cap)
    (hn : WQ P N D ops A2 R rest ((d, .slice a h m) :: env) A) : WQ P N D ops A2 R (o :: rest) env A :=
  wq_val hg hd (fun c e => by rw [ho] at e; cases e) (fun ρ W hρ _ => by
    subst hz; subst hz'
    exact slice_hm_run hT ho ht hk (hρ _ _ hx) (hρ _ _ hy) (hρ _ _ hy') h1 h2 W) hn
theorem wq_slice_l {T : Tbl} {i : TI} {d : Nat} {t : TypeId} {x y' : Operand} {k' : IntKind} {b off : Nat} {len cap : Nat} {z' : Int} (l : Nat) (hT : okB P T = true) (hg : guardE ops N env o = some true) (hd : o.dst = some d) (ho : o.op = .slice t x (some y') none none)
    (ht : find T t = some i) (hk : i.kind = 2) (hx : evO N env x = some (.slice (some ⟨b, off, none⟩) len cap)) (hy' : evO N env y' = some (.int k' z')) (hz' : z' = l) (h1 : l ≤ len) (h2 : len ≤ cap)
    (hn : WQ P N D ops A2 R rest ((d, .slice (some ⟨b, if cap = l then off else off + l * i.elemSize, none⟩) (len - l) (cap - l)) :: env) A) : WQ P N D ops A2 R (o :: rest) env A :=
  wq_val hg hd (fun c e => by rw [ho] at e; cases e) (fun ρ W hρ _ => by
    subst hz'
    have := slice_run (P := P) (l := l) (h := len) hT ho ht hk (hρ _ _ hx) (.inr ⟨k', by rw [Option.map_some, hρ _ _ hy']⟩) (.inl ⟨rfl, rfl⟩) h1 h2 W
    rw [this]
    have e : (if cap = l then some (⟨b, off, none⟩ : Addr) else (some (⟨b, off, none⟩ : Addr)).map (·.add (l * i.elemSize))) = some ⟨b, if cap = l then off else off + l * i.elemSize, none⟩ := by
      split
      · rfl
      · simp [Addr.add_none]
    rw [e]) hn
theorem wq_slice_h {T : Tbl} {i : TI} {d : Nat} {t : TypeId} {x y : Operand} {k : IntKind} {a : Option Addr} {len cap : Nat} {z : Int} (h : Nat) (hT : okB P T = true) (hg : guardE ops N env o = some true) (hd : o.dst = some d) (ho : o.op = .slice t x none (some y) none)
    (ht : find T t = some i) (hk : i.kind = 2) (hx : evO N env x = some (.slice a len cap)) (hy : evO N env y = some (.int k z)) (hz : z = h) (h2 : h ≤ cap)
    (hn : WQ P N D ops A2 R rest ((d, .slice a h cap) :: env) A) : WQ P N D ops A2 R (o :: rest) env A :=
  wq_val hg hd (fun c e => by rw [ho] at e; cases e) (fun ρ W hρ _ => by
    subst hz
    have := slice_run (P := P) (l := 0) (h := h) hT ho ht hk (hρ _ _ hx) (.inl ⟨rfl, rfl⟩) (.inr ⟨k, by rw [Option.map_some, hρ _ _ hy]⟩) (Nat.zero_le _) h2 W
    rw [this]
    have e : (if cap = 0 then a else a.map (·.add (0 * i.elemSize))) = a := by
      split
      · rfl
      · cases a with
        | none => rfl
        | some a => simp [Addr.add]
    rw [e]; rfl) hn
end
-- BOXIDX t2=0 t3=1
def befB (a b : Sd) : Bool := decide (cmpS a b < 0)
theorem befB_eq (a b : Sd) : befB a b = (decide (a.x < b.x) || ((a.x == b.x) && decide (a.y < b.y))) := by
  unfold befB
  rw [Bool.eq_iff_iff]
  simp only [decide_eq_true_eq, Bool.or_eq_true, Bool.and_eq_true, beq_iff_eq]
  exact cmpS_neg
theorem before_gives (a b : Sd) : Gives Tryz.prog 100 [a.val, b.val] (.bool (befB a b)) := by
  intro W
  refine calls_enter (args := [a.val, b.val]) Tryz.func100 rfl rfl rfl ?_
  refine zA ?_
  refine zB ?_
  (refine wl_box rfl rfl rfl rfl ?_; intro)
  (refine wl_box rfl rfl rfl rfl ?_; intro)
  refine wl_pure Tryz.hT rfl rfl rfl ?_
  refine wl_nil ?_
  rename_i b2 b3
  rw [befB_eq]
  by_cases h1 : a.x < b.x
  · refine zE ?_
    refine zA ?_
    refine zB ?_
    refine wl_pure Tryz.hT rfl rfl rfl ?_
    refine wl_loadBx 0 Tryz.hT rfl rfl rfl rfl rfl rfl rfl rfl ?_
    refine wl_pure Tryz.hT rfl rfl rfl ?_
    refine wl_loadBx 1 Tryz.hT rfl rfl rfl rfl rfl rfl rfl rfl ?_
    refine wl_pure Tryz.hT rfl rfl rfl ?_
    refine wl_upd 9 (.bool true) rfl (congrArg Value.bool (decide_eq_true h1)) ?_
    refine wl_pure Tryz.hT rfl rfl rfl ?_
    iterate 12 refine wl_skip rfl rfl ?_
    iterate 2 refine wl_pure Tryz.hT rfl rfl rfl ?_
    refine wl_nil ?_
    refine zE ?_
    refine zO ?_
    exact ne_ret1 Tryz.hT rfl (.tmp rfl) () (by rw [decide_eq_true h1]; rfl) trivial fun W _ => NewBx.nil _ _
  · refine zE ?_
    refine zA ?_
    refine zB ?_
    refine wl_pure Tryz.hT rfl rfl rfl ?_
    refine wl_loadBx 0 Tryz.hT rfl rfl rfl rfl rfl rfl rfl rfl ?_
    refine wl_pure Tryz.hT rfl rfl rfl ?_
    refine wl_loadBx 1 Tryz.hT rfl rfl rfl rfl rfl rfl rfl rfl ?_
    refine wl_pure Tryz.hT rfl rfl rfl ?_
    refine wl_upd 9 (.bool false) rfl (congrArg Value.bool (decide_eq_false h1)) ?_
    iterate 2 refine wl_pure Tryz.hT rfl rfl rfl ?_
    refine wl_loadBx 0 Tryz.hT rfl rfl rfl rfl rfl rfl rfl rfl ?_
    refine wl_pure Tryz.hT rfl rfl rfl ?_
    refine wl_loadBx 1 Tryz.hT rfl rfl rfl rfl rfl rfl rfl rfl ?_
    refine wl_pure Tryz.hT rfl rfl rfl ?_
    by_cases h2 : a.x = b.x
    · refine wl_upd 15 (.bool true) rfl (congrArg Value.bool (by rw [beq_iff_eq]; exact h2)) ?_
      iterate 2 refine wl_pure Tryz.hT rfl rfl rfl ?_
      refine wl_loadBx 0 Tryz.hT rfl rfl rfl rfl rfl rfl rfl rfl ?_
      refine wl_pure Tryz.hT rfl rfl rfl ?_
      refine wl_loadBx 1 Tryz.hT rfl rfl rfl rfl rfl rfl rfl rfl ?_
      iterate 4 refine wl_pure Tryz.hT rfl rfl rfl ?_
      refine wl_nil ?_
      refine zE ?_
      refine zO ?_
      exact ne_ret1 Tryz.hT rfl (.tmp rfl) () (by rw [decide_eq_false h1, beq_iff_eq.2 h2]; rfl) trivial fun W _ => NewBx.nil _ _
    · refine wl_upd 15 (.bool false) rfl (congrArg Value.bool (by rw [beq_eq_false_iff_ne]; exact h2)) ?_
      refine wl_pure Tryz.hT rfl rfl rfl ?_
      iterate 5 refine wl_skip rfl rfl ?_
      iterate 3 refine wl_pure Tryz.hT rfl rfl rfl ?_
      refine wl_nil ?_
      refine zE ?_
      refine zO ?_
      exact ne_ret1 Tryz.hT rfl (.tmp rfl) () (by rw [decide_eq_false h1, beq_eq_false_iff_ne.2 h2]; rfl) trivial fun W _ => NewBx.nil _ _
theorem first_gives (W : World) (p : Option Addr) (cap : Nat) (l : List Sd) (h0 : 0 < l.length) (hn : l.length < 4611686018427387904) (hR : RingP W p l) :
    CallsR Tryz.prog 101 #[slv p l.length cap] W (fun _ : Unit => .int .i64 (atS l : Nat)) (fun _ => True) (fun _ => []) := by
  obtain ⟨bq, oq, rfl, hrq⟩ := hR.row h0
  refine calls_enter (args := [slv (some ⟨bq, oq, none⟩) l.length cap]) Tryz.func101 rfl rfl rfl ?_
  refine zA ?_
  refine zB ?_
  refine wl_pure Tryz.hT rfl rfl rfl ?_
  refine wl_nil ?_
  refine zE ?_
  refine zA ?_
  refine zB ?_
  refine wl_pure Tryz.hT rfl rfl rfl ?_
  refine wl_nil ?_
  refine zE ?_
  iterate 2 refine zA ?_
  refine zB ?_
  refine wl_pure Tryz.hT rfl rfl rfl ?_
  refine wl_nil ?_
  refine zE ?_
  refine zH ?_
  refine wc_loop (X := Nat) (fun k => [(0, slv (some ⟨bq, oq, none⟩) l.length cap), (3, .int .i64 (atUp l k : Nat)), (4, .int .i64 ((k + 1 : Nat) : Int))]) (fun _ => [])
    (fun k => k < l.length) (fun k => l.length - k) 0 h0 ⟨rfl, rfl, rfl, trivial⟩ [] rfl ?_
  intro k hk
  iterate 2 refine zA ?_
  refine zB ?_
  iterate 4 refine wl_pure Tryz.hT rfl rfl rfl ?_
  refine wl_nil ?_
  refine zE ?_
  refine wc_cond rfl (fun h => ?_) (fun h => ?_)
  rotate_left
  · have e : k = l.length - 1 := by have h' : decide (((k + 1 : Nat) : Int) < (l.length : Nat)) = false := h; rw [decide_eq_false_iff_not] at h'; omega
    subst e
    clear h
    refine zJ ?_
    iterate 2 refine zK ?_
    refine zL ?_
    refine zE ?_
    refine zA ?_
    refine zB ?_
    iterate 2 refine wl_pure Tryz.hT rfl rfl rfl ?_
    refine wl_nil ?_
    refine zE ?_
    refine zO ?_
    exact ne_ret1 Tryz.hT rfl (.tmp rfl) () (rfl) trivial fun W _ => NewBx.nil _ _
  have hk1 : k + 1 < l.length := by have h' : decide (((k + 1 : Nat) : Int) < (l.length : Nat)) = true := h; rw [decide_eq_true_iff] at h'; omega
  clear h
  have eup : atUp l (k + 1) = if cmpS (sd l (k + 1)) (sd l (atUp l k)) < 0 then k + 1 else atUp l k := rfl
  have hle := atUp_le l k
  refine zI ?_
  refine zE ?_
  refine zA ?_
  refine zH ?_
  refine zA ?_
  refine zT Tryz.mixed (by kernel_rfl) ?_
  iterate 2 refine wq_pure Tryz.hT rfl rfl rfl ?_
  refine wq_indexAddr Tryz.hT rfl rfl rfl rfl rfl rfl rfl (by omega) (by omega) ?_
  refine wq_load rfl rfl rfl rfl (fun W hp => RowAt.load 0 Tryz.hT rfl ((fun W hp => (hrq _ hk1).hp hp) W hp) rfl) ?_
  iterate 2 refine wq_pure Tryz.hT rfl rfl rfl ?_
  refine wq_indexAddr Tryz.hT rfl rfl rfl rfl rfl rfl rfl (by omega) (by omega) ?_
  refine wq_load rfl rfl rfl rfl (fun W hp => RowAt.load 0 Tryz.hT rfl ((fun W hp => (hrq (atUp l k) (by omega)).hp hp) W hp) rfl) ?_
  refine wq_call1 (capt := []) rfl rfl rfl rfl rfl rfl (by kernel_rfl) (fun W _ => before_gives (sd l (k + 1)) (sd l (atUp l k)) W) ?_
  refine wq_nil ?_
  refine wl_nil ?_
  refine zE ?_
  refine wc_cond rfl (fun hx => ?_) (fun hx => ?_)
  · have hx : cmpS (sd l (k + 1)) (sd l (atUp l k)) < 0 := of_decide_eq_true hx
    rw [if_pos hx] at eup
    refine zB ?_
    iterate 2 refine wl_pure Tryz.hT rfl rfl rfl ?_
    refine wl_nil ?_
    refine zN ?_
    refine zE ?_
    refine zB ?_
    iterate 3 refine wl_pure Tryz.hT rfl rfl rfl ?_
    refine wl_nil ?_
    exact ne_loop (k + 1) hk1 (by omega) ⟨rfl, by rw [eup]; rfl, congrArg (fun z => some (Value.int .i64 z)) (wrap_id (x := ((k + 1 : Nat) : Int) + 1) (by omega) (by omega)), trivial⟩ [] rfl
  · have hx : ¬ cmpS (sd l (k + 1)) (sd l (atUp l k)) < 0 := of_decide_eq_false hx
    rw [if_neg hx] at eup
    refine zI ?_
    refine zN ?_
    refine zE ?_
    refine zB ?_
    iterate 3 refine wl_pure Tryz.hT rfl rfl rfl ?_
    refine wl_nil ?_
    exact ne_loop (k + 1) hk1 (by omega) ⟨rfl, by rw [eup]; rfl, congrArg (fun z => some (Value.int .i64 z)) (wrap_id (x := ((k + 1 : Nat) : Int) + 1) (by omega) (by omega)), trivial⟩ [] rfl
end Go.Proofs.YtnpfkmbcejgnjaaGreatDoor
namespace Go.Proofs.YtnpfkmbcejgnjaaGreatDoor
open Go Go.RowKit Go.Am
/-- The order of the first n rings. -/
def ordN (rs : List (List Sd)) : Nat → List Nat
  | 0 => []
  | 1 => [0]
  | 2 => [0, 1]
  | _ => if befB (sd (c1 rs 2) 0) (sd (c1 rs 1) 0) = true then [0, 2, 1] else [0, 1, 2]
def oN (rs : List (List Sd)) (n : Nat) : List Int := (ordN rs n).map fun k : Nat => (k : Int)
theorem canP_ord {rs : List (List Sd)} (h : rs.length = 1 ∨ rs.length = 2 ∨ rs.length = 3) : canP rs = (ordN rs rs.length).map (pairR rs) := by
  unfold canP
  rcases h with h | h | h <;> rw [h]
  · rfl
  · rfl
  · rw [pairs3]
    show (pairR rs 0 :: (if cmpS (sd (c1 rs 2) 0) (sd (c1 rs 1) 0) < 0 then [pairR rs 2, pairR rs 1] else [pairR rs 1, pairR rs 2])) = List.map _ (if befB (sd (c1 rs 2) 0) (sd (c1 rs 1) 0) = true then [0, 2, 1] else [0, 1, 2])
    unfold befB
    by_cases hc : cmpS (sd (c1 rs 2) 0) (sd (c1 rs 1) 0) < 0
    · rw [if_pos hc, if_pos (decide_eq_true hc)]; rfl
    · rw [if_neg hc, if_neg (by rw [decide_eq_false hc]; decide)]; rfl
theorem ordN_len {rs : List (List Sd)} {n : Nat} (h : n = 1 ∨ n = 2 ∨ n = 3) : (ordN rs n).length = n := by
  rcases h with rfl | rfl | rfl
  · rfl
  · rfl
  · show (if _ then [0, 2, 1] else [0, 1, 2]).length = 3
    split <;> rfl
theorem ordN_mem {rs : List (List Sd)} {n : Nat} (h : n = 1 ∨ n = 2 ∨ n = 3) : ∀ r, r < n ↔ r ∈ ordN rs n := by
  rcases h with rfl | rfl | rfl
  · intro r; show r < 1 ↔ r ∈ [0]; simp
  · intro r; show r < 2 ↔ r ∈ [0, 1]; simp; omega
  · intro r
    show r < 3 ↔ r ∈ (if _ then [0, 2, 1] else [0, 1, 2])
    split <;> simp <;> omega
theorem canR_ord {rs : List (List Sd)} (h : rs.length = 1 ∨ rs.length = 2 ∨ rs.length = 3) : canR rs = (ordN rs rs.length).map (c1 rs) := by
  unfold canR
  rw [canP_ord h, List.map_map]; rfl
/-- How many sides the first k rings of an order have. -/
def pre (rs : List (List Sd)) (ks : List Nat) (k : Nat) : Nat := ((ks.take k).map fun r => (rg rs r).length).sum
theorem pre_succ {rs : List (List Sd)} {ks : List Nat} {k r : Nat} (h : ks[k]? = some r) : pre rs ks (k + 1) = pre rs ks k + (rg rs r).length := by
  unfold pre
  rw [List.take_add_one, h, List.map_append, List.sum_append]
  simp
theorem flat_at {α β : Type} (g : α → List β) : ∀ (ks : List α) (k : Nat) (x : α), ks[k]? = some x → ∀ p, p < (g x).length → (ks.flatMap g)[((ks.take k).map fun y => (g y).length).sum + p]? = (g x)[p]?
  | [], k, x, h, _, _ => by simp at h
  | y :: ks, 0, x, h, p, hp => by
    obtain rfl : y = x := by simpa using h
    show (g y ++ ks.flatMap g)[0 + p]? = _
    rw [Nat.zero_add, List.getElem?_append_left hp]
  | y :: ks, k + 1, x, h, p, hp => by
    show (g y ++ ks.flatMap g)[(g y).length + ((ks.take k).map fun y => (g y).length).sum + p]? = _
    rw [List.getElem?_append_right (by omega), show (g y).length + ((ks.take k).map fun y => (g y).length).sum + p - (g y).length = ((ks.take k).map fun y => (g y).length).sum + p by omega]
    exact flat_at g ks k x (by simpa using h) p hp
theorem back_mod {i m f : Nat} (hi : i < m) (hf : f < m) : (f + (i + m - f) % m) % m = i := by
  by_cases h : f ≤ i
  · have e : i + m - f = (i - f) + m := by omega
    rw [e, Nat.add_mod_right, Nat.mod_eq_of_lt (show i - f < m by omega), show f + (i - f) = i by omega, Nat.mod_eq_of_lt hi]
  · rw [Nat.mod_eq_of_lt (show i + m - f < m by omega), show f + (i + m - f) = i + m by omega, Nat.add_mod_right, Nat.mod_eq_of_lt hi]
theorem num_val {rs : List (List Sd)} (hc : chk rs = 0) (h : rs.length = 1 ∨ rs.length = 2 ∨ rs.length = 3) {k r i : Nat} (hk : (ordN rs rs.length)[k]? = some r) (hi : i < (rg rs r).length) :
    (numsOf rs).getD (tot (rs.take r) + i) 0 = ((pre rs (ordN rs rs.length) k + (i + (rg rs r).length - atS (rg rs r)) % (rg rs r).length : Nat) : Int) := by
  have hr : r < rs.length := (ordN_mem h r).2 (List.mem_of_getElem? hk)
  have hat := at_lt hc hr
  have hp : (i + (rg rs r).length - atS (rg rs r)) % (rg rs r).length < (rg rs r).length := Nat.mod_lt _ (by omega)
  have hb := back_mod hi hat
  generalize hP : (i + (rg rs r).length - atS (rg rs r)) % (rg rs r).length = p at hp hb ⊢
  have e1 : olds rs = (ordN rs rs.length).flatMap fun r => (pairR rs r).2 := by
    unfold olds
    rw [canP_ord h]
    exact List.flatMap_map ..
  have hl2 : ∀ r, ((pairR rs r).2).length = (rg rs r).length := fun r => by
    show (rot _ _).length = _
    rw [rot_len, oldN_len]
  have e2 := flat_at (fun r => (pairR rs r).2) (ordN rs rs.length) k r hk p (by rw [hl2]; exact hp)
  rw [← e1] at e2
  have e3 : (((ordN rs rs.length).take k).map fun y => ((pairR rs y).2).length).sum = pre rs (ordN rs rs.length) k := by
    unfold pre
    congr 1
    exact List.map_congr_left fun y _ => hl2 y
  rw [e3] at e2
  have e4 : ((pairR rs r).2)[p]? = some ((tot (rs.take r) + i : Nat) : Int) := by
    show (rot (oldN (tot (rs.take r)) (rg rs r).length) (atS (rg rs r)))[p]? = _
    rw [rot_get (by rw [oldN_len]; exact hat) (by rw [oldN_len]; exact hp), oldN_len, hb]
    unfold oldN
    rw [List.getElem?_map, List.getElem?_range hi]; rfl
  rw [e4] at e2
  have hj : pre rs (ordN rs rs.length) k + p < tot rs := by
    have := (List.getElem?_eq_some_iff.1 e2).1
    rw [olds_len] at this; exact this
  obtain ⟨o, _, h2, h3⟩ := numsOf_at hj
  rw [h2] at e2
  have : o = tot (rs.take r) + i := by have := Option.some.inj e2; omega
  rw [← this]
  exact h3
/-- The first numbers of rings. -/
def fs (rs : List (List Sd)) : Nat → List Int
  | 0 => List.replicate rs.length 0
  | k + 1 => (fs rs k).set ((ordN rs rs.length).getD k 0) (pre rs (ordN rs rs.length) k : Nat)
theorem fs_len (rs : List (List Sd)) : ∀ k, (fs rs k).length = rs.length
  | 0 => List.length_replicate
  | k + 1 => by
    show ((fs rs k).set _ _).length = _
    rw [List.length_set, fs_len rs k]
/-- At the end each ring's first number stands at its place. -/
theorem fs_at {rs : List (List Sd)} (h : rs.length = 1 ∨ rs.length = 2 ∨ rs.length = 3) {r : Nat} (hr : r < rs.length) : ∃ k, (ordN rs rs.length)[k]? = some r ∧ (fs rs rs.length).getD r 0 = (pre rs (ordN rs rs.length) k : Nat) := by
  rcases h with h | h | h
  · rw [h] at hr ⊢
    obtain rfl : r = 0 := by omega
    refine ⟨0, rfl, ?_⟩
    simp only [fs, h, ordN]
    rfl
  · have e : ordN rs rs.length = [0, 1] := by rw [h]; rfl
    have e2 : fs rs 2 = [((pre rs [0, 1] 0 : Nat) : Int), ((pre rs [0, 1] 1 : Nat) : Int)] := by simp only [fs, h]; rfl
    rw [h] at hr
    rw [e, h, e2]
    rcases (show r = 0 ∨ r = 1 by omega) with rfl | rfl
    · exact ⟨0, rfl, rfl⟩
    · exact ⟨1, rfl, rfl⟩
  · by_cases hb : befB (sd (c1 rs 2) 0) (sd (c1 rs 1) 0) = true
    · have e : ordN rs rs.length = [0, 2, 1] := by rw [h]; show (if _ then _ else _) = _; rw [if_pos hb]
      have e2 : fs rs 3 = [((pre rs [0, 2, 1] 0 : Nat) : Int), ((pre rs [0, 2, 1] 2 : Nat) : Int), ((pre rs [0, 2, 1] 1 : Nat) : Int)] := by
        have e3 : ordN rs 3 = _ := (congrArg (ordN rs) h).symm.trans e
        simp only [fs, h, e3]; rfl
      rw [h] at hr
      rw [e, h, e2]
      rcases (show r = 0 ∨ r = 1 ∨ r = 2 by omega) with rfl | rfl | rfl
      · exact ⟨0, rfl, rfl⟩
      · exact ⟨2, rfl, rfl⟩
      · exact ⟨1, rfl, rfl⟩
    · have e : ordN rs rs.length = [0, 1, 2] := by rw [h]; show (if _ then _ else _) = _; rw [if_neg hb]
      have e2 : fs rs 3 = [((pre rs [0, 1, 2] 0 : Nat) : Int), ((pre rs [0, 1, 2] 1 : Nat) : Int), ((pre rs [0, 1, 2] 2 : Nat) : Int)] := by
        have e3 : ordN rs 3 = _ := (congrArg (ordN rs) h).symm.trans e
        simp only [fs, h, e3]; rfl
      rw [h] at hr
      rw [e, h, e2]
      rcases (show r = 0 ∨ r = 1 ∨ r = 2 by omega) with rfl | rfl | rfl
      · exact ⟨0, rfl, rfl⟩
      · exact ⟨1, rfl, rfl⟩
      · exact ⟨2, rfl, rfl⟩
end Go.Proofs.YtnpfkmbcejgnjaaGreatDoor
namespace Go.Proofs.YtnpfkmbcejgnjaaGreatDoor
open Go Go.RowKit Go.Am
set_option maxRecDepth 10000
-- BOXES 1
def sgI (a : Int) : Int := if a < 0 then -1 else if a > 0 then 1 else 0
theorem sign_gives (a : Int) : Gives Tryz.prog 152 [.int .i64 a] (.int .i64 (sgI a)) := by
  intro W
  refine calls_enter Tryz.func152 rfl rfl rfl ?_
  refine zA ?_
  refine zB ?_
  refine wl_pure Tryz.hT rfl rfl rfl ?_
  refine wl_nil ?_
  refine zE ?_
  iterate 2 refine zA ?_
  refine zB ?_
  iterate 2 refine wl_pure Tryz.hT rfl rfl rfl ?_
  refine wl_nil ?_
  refine zE ?_
  refine wc_cond rfl (fun h => ?_) (fun h => ?_)
  · refine zA ?_
    refine zB ?_
    refine wl_pure Tryz.hT rfl rfl rfl ?_
    refine wl_nil ?_
    refine zE ?_
    refine zO ?_
    refine zP ?_
    have h' : a < 0 := by simpa using h
    exact ne_ret1 Tryz.hT rfl (.tmp rfl) () (by unfold sgI; rw [if_pos h']) trivial fun W _ => NewBx.nil _ _
  have h1 : ¬ a < 0 := by simpa using h
  refine zI ?_
  refine zE ?_
  iterate 2 refine zA ?_
  refine zB ?_
  iterate 2 refine wl_pure Tryz.hT rfl rfl rfl ?_
  refine wl_nil ?_
  refine zE ?_
  refine wc_cond rfl (fun h2 => ?_) (fun h2 => ?_)
  · refine zA ?_
    refine zB ?_
    refine wl_pure Tryz.hT rfl rfl rfl ?_
    refine wl_nil ?_
    refine zE ?_
    refine zO ?_
    refine zP ?_
    have h' : a > 0 := by simpa using h2
    exact ne_ret1 Tryz.hT rfl (.tmp rfl) () (by unfold sgI; rw [if_neg h1, if_pos h']) trivial fun W _ => NewBx.nil _ _
  have h3 : ¬ a > 0 := by simpa using h2
  refine zI ?_
  refine zE ?_
  refine zA ?_
  refine zB ?_
  refine wl_pure Tryz.hT rfl rfl rfl ?_
  refine wl_nil ?_
  refine zE ?_
  refine zO ?_
  exact ne_ret1 Tryz.hT rfl (.tmp rfl) () (by unfold sgI; rw [if_neg h1, if_neg h3]) trivial fun W _ => NewBx.nil _ _
def outB (n a b : Int) : Bool := decide (n < a) || decide (n > b)
theorem outB_btw (n a b : Int) : outB n a b = !btw n a b := by
  unfold outB btw
  rw [Bool.eq_iff_iff]
  simp only [Bool.or_eq_true, Bool.not_eq_true', Bool.and_eq_false_iff, decide_eq_true_eq, decide_eq_false_iff_not]
  omega
theorem outside_gives (n a b : Int) : Gives Tryz.prog 99 [.int .i64 n, .int .i64 a, .int .i64 b] (.bool (outB n a b)) := by
  intro W
  refine calls_enter Tryz.func99 rfl rfl rfl ?_
  refine zA ?_
  refine zB ?_
  refine wl_pure Tryz.hT rfl rfl rfl ?_
  refine wl_nil ?_
  refine zE ?_
  refine zA ?_
  refine zB ?_
  iterate 4 refine wl_pure Tryz.hT rfl rfl rfl ?_
  refine wl_part 10 rfl (fun h10 => ?_) (fun h10 => ?_)
  · refine wl_skip rfl rfl ?_
    iterate 2 refine wl_skip rfl rfl ?_
    iterate 2 refine wl_pure Tryz.hT rfl rfl rfl ?_
    refine wl_nil ?_
    refine zE ?_
    refine zO ?_
    exact ne_ret1 Tryz.hT rfl (.tmp rfl) () (by simp_all [outB] <;> (intros; omega)) trivial fun W _ => NewBx.nil _ _
  · refine wl_pure Tryz.hT rfl rfl rfl ?_
    iterate 4 refine wl_pure Tryz.hT rfl rfl rfl ?_
    refine wl_nil ?_
    refine zE ?_
    refine zO ?_
    exact ne_ret1 Tryz.hT rfl (.tmp rfl) () (by simp_all [outB] <;> (intros; omega)) trivial fun W _ => NewBx.nil _ _
theorem rangedR_gives (s : Sd) : Gives Tryz.prog 64 [s.val] (.bool (rgd s)) := by
  intro W
  refine calls_enter Tryz.func64 rfl rfl rfl ?_
  refine zA ?_
  refine zB ?_
  (refine wl_box rfl rfl rfl rfl ?_; intro)
  refine wl_pure Tryz.hT rfl rfl rfl ?_
  refine wl_nil ?_
  rename_i b1
  have no : (outB s.x 0 65536 || outB s.y 0 65536 || outB s.plate 0 65536 || outB s.over 0 65536) = true → rgd s = false := fun h => by
    simp only [outB_btw] at h
    unfold rgd
    rw [show (btw s.x 0 65536 && btw s.y 0 65536 && btw s.plate 0 65536 && btw s.over 0 65536) = false by
      rw [Bool.eq_false_iff]; intro h2; simp_all, Bool.and_false]
  have yes : outB s.x 0 65536 = false → outB s.y 0 65536 = false → outB s.plate 0 65536 = false → outB s.over 0 65536 = false → rgd s = (if s.gable then s.rise == 0 && s.run == 0 else btw s.rise 1 48 && btw s.run 1 48) := fun h1 h2 h3 h4 => by
    rw [outB_btw, Bool.not_eq_false'] at h1 h2 h3 h4
    unfold rgd
    rw [h1, h2, h3, h4]; simp
  refine zE ?_
  iterate 2 refine zA ?_
  refine zB ?_
  refine wl_pure Tryz.hT rfl rfl rfl ?_
  refine wl_loadBx 0 Tryz.hT rfl rfl rfl rfl rfl rfl rfl rfl ?_
  refine wl_call1 rfl rfl rfl rfl rfl rfl (by kernel_rfl) (fun W _ => (outside_gives ..)) ?_
  refine wl_pure Tryz.hT rfl rfl rfl ?_
  refine wl_part 6 rfl (fun h6 => ?_) (fun h6 => ?_)
  · refine wl_skip rfl rfl ?_
    iterate 2 refine wl_skip rfl rfl ?_
    iterate 2 refine wl_pure Tryz.hT rfl rfl rfl ?_
    iterate 3 refine wl_skip rfl rfl ?_
    iterate 2 refine wl_pure Tryz.hT rfl rfl rfl ?_
    iterate 3 refine wl_skip rfl rfl ?_
    refine wl_pure Tryz.hT rfl rfl rfl ?_
    refine wl_nil ?_
    refine zE ?_
    refine zR rfl ?_
    refine zA ?_
    refine zB ?_
    refine wl_pure Tryz.hT rfl rfl rfl ?_
    refine wl_nil ?_
    refine zE ?_
    refine zO ?_
    refine zP ?_
    exact ne_ret1 Tryz.hT rfl (.tmp rfl) () (by rw [no (by simp_all)]) trivial fun W _ => NewBx.nil _ _
  · refine wl_pure Tryz.hT rfl rfl rfl ?_
    refine wl_loadBx 0 Tryz.hT rfl rfl rfl rfl rfl rfl rfl rfl ?_
    refine wl_call1 rfl rfl rfl rfl rfl rfl (by kernel_rfl) (fun W _ => (outside_gives ..)) ?_
    iterate 2 refine wl_pure Tryz.hT rfl rfl rfl ?_
    refine wl_part 11 rfl (fun h11 => ?_) (fun h11 => ?_)
    · refine wl_skip rfl rfl ?_
      iterate 2 refine wl_skip rfl rfl ?_
      iterate 2 refine wl_pure Tryz.hT rfl rfl rfl ?_
      iterate 3 refine wl_skip rfl rfl ?_
      refine wl_pure Tryz.hT rfl rfl rfl ?_
      refine wl_nil ?_
      refine zE ?_
      refine zR rfl ?_
      refine zA ?_
      refine zB ?_
      refine wl_pure Tryz.hT rfl rfl rfl ?_
      refine wl_nil ?_
      refine zE ?_
      refine zO ?_
      refine zP ?_
      exact ne_ret1 Tryz.hT rfl (.tmp rfl) () (by rw [no (by simp_all)]) trivial fun W _ => NewBx.nil _ _
    · refine wl_pure Tryz.hT rfl rfl rfl ?_
      refine wl_loadBx 0 Tryz.hT rfl rfl rfl rfl rfl rfl rfl rfl ?_
      refine wl_call1 rfl rfl rfl rfl rfl rfl (by kernel_rfl) (fun W _ => (outside_gives ..)) ?_
      iterate 2 refine wl_pure Tryz.hT rfl rfl rfl ?_
      refine wl_part 16 rfl (fun h16 => ?_) (fun h16 => ?_)
      · refine wl_skip rfl rfl ?_
        iterate 2 refine wl_skip rfl rfl ?_
        refine wl_pure Tryz.hT rfl rfl rfl ?_
        refine wl_nil ?_
        refine zE ?_
        refine zR rfl ?_
        refine zA ?_
        refine zB ?_
        refine wl_pure Tryz.hT rfl rfl rfl ?_
        refine wl_nil ?_
        refine zE ?_
        refine zO ?_
        refine zP ?_
        exact ne_ret1 Tryz.hT rfl (.tmp rfl) () (by rw [no (by simp_all)]) trivial fun W _ => NewBx.nil _ _
      · refine wl_pure Tryz.hT rfl rfl rfl ?_
        refine wl_loadBx 0 Tryz.hT rfl rfl rfl rfl rfl rfl rfl rfl ?_
        refine wl_call1 rfl rfl rfl rfl rfl rfl (by kernel_rfl) (fun W _ => (outside_gives ..)) ?_
        refine wl_pure Tryz.hT rfl rfl rfl ?_
        refine wl_nil ?_
        refine zE ?_
        refine wc_cond rfl (fun h => ?_) (fun h => ?_)
        · refine zA ?_
          refine zB ?_
          refine wl_pure Tryz.hT rfl rfl rfl ?_
          refine wl_nil ?_
          refine zE ?_
          refine zO ?_
          refine zP ?_
          exact ne_ret1 Tryz.hT rfl (.tmp rfl) () (by rw [no (by simp_all)]) trivial fun W _ => NewBx.nil _ _
        refine zI ?_
        refine zE ?_
        iterate 2 refine zA ?_
        refine zB ?_
        have e := yes (by simp_all) (by simp_all) (by simp_all) (by simp_all)
        refine wl_pure Tryz.hT rfl rfl rfl ?_
        refine wl_loadBx 0 Tryz.hT rfl rfl rfl rfl rfl rfl rfl rfl ?_
        refine wl_nil ?_
        refine zE ?_
        refine wc_cond rfl (fun hg => ?_) (fun hg => ?_)
        · refine zA ?_
          refine zB ?_
          refine wl_pure Tryz.hT rfl rfl rfl ?_
          refine wl_loadBx 0 Tryz.hT rfl rfl rfl rfl rfl rfl rfl rfl ?_
          iterate 2 refine wl_pure Tryz.hT rfl rfl rfl ?_
          refine wl_part 26 rfl (fun h26 => ?_) (fun h26 => ?_)
          · refine wl_pure Tryz.hT rfl rfl rfl ?_
            refine wl_loadBx 0 Tryz.hT rfl rfl rfl rfl rfl rfl rfl rfl ?_
            iterate 3 refine wl_pure Tryz.hT rfl rfl rfl ?_
            refine wl_nil ?_
            refine zE ?_
            refine zO ?_
            refine zP ?_
            exact ne_ret1 Tryz.hT rfl (.tmp rfl) () (by rw [e, hg]; simp_all) trivial fun W _ => NewBx.nil _ _
          · refine wl_skip rfl rfl ?_
            iterate 2 refine wl_skip rfl rfl ?_
            iterate 2 refine wl_pure Tryz.hT rfl rfl rfl ?_
            refine wl_nil ?_
            refine zE ?_
            refine zO ?_
            refine zP ?_
            exact ne_ret1 Tryz.hT rfl (.tmp rfl) () (by rw [e, hg]; simp_all) trivial fun W _ => NewBx.nil _ _
        · refine zI ?_
          refine zE ?_
          refine zA ?_
          refine zB ?_
          refine wl_pure Tryz.hT rfl rfl rfl ?_
          refine wl_loadBx 0 Tryz.hT rfl rfl rfl rfl rfl rfl rfl rfl ?_
          refine wl_call1 rfl rfl rfl rfl rfl rfl (by kernel_rfl) (fun W _ => (outside_gives ..)) ?_
          iterate 2 refine wl_pure Tryz.hT rfl rfl rfl ?_
          refine wl_part 35 rfl (fun h35 => ?_) (fun h35 => ?_)
          · refine wl_pure Tryz.hT rfl rfl rfl ?_
            refine wl_loadBx 0 Tryz.hT rfl rfl rfl rfl rfl rfl rfl rfl ?_
            refine wl_call1 rfl rfl rfl rfl rfl rfl (by kernel_rfl) (fun W _ => (outside_gives ..)) ?_
            iterate 3 refine wl_pure Tryz.hT rfl rfl rfl ?_
            refine wl_nil ?_
            refine zE ?_
            refine zO ?_
            exact ne_ret1 Tryz.hT rfl (.tmp rfl) () (by rw [e, hg]; simp_all [outB_btw]) trivial fun W _ => NewBx.nil _ _
          · refine wl_skip rfl rfl ?_
            iterate 3 refine wl_skip rfl rfl ?_
            iterate 2 refine wl_pure Tryz.hT rfl rfl rfl ?_
            refine wl_nil ?_
            refine zE ?_
            refine zO ?_
            exact ne_ret1 Tryz.hT rfl (.tmp rfl) () (by rw [e, hg]; simp_all [outB_btw]) trivial fun W _ => NewBx.nil _ _
theorem end_gives (W : World) (p : Option Addr) (cap : Nat) (l : List Sd) (i : Nat) (hn : l.length < 4611686018427387904) (hR : RingP W p l) (hi : i < l.length) :
    CallsR Tryz.prog 109 #[slv p l.length cap, .int .i64 (i : Nat)] W (fun _ : Unit => .tuple #[.int .i64 (sd l (nxt l.length i)).x, .int .i64 (sd l (nxt l.length i)).y]) (fun _ => True) (fun _ => []) := by
  obtain ⟨b, off, rfl, hrow⟩ := hR.row hi
  have hi2 := nxt_lt hi
  refine calls_enter (args := [slv (some ⟨b, off, none⟩) l.length cap, .int .i64 (i : Nat)]) Tryz.func109 rfl rfl rfl ?_
  refine zA ?_
  refine zB ?_
  iterate 2 refine wl_pure Tryz.hT rfl rfl rfl ?_
  refine wl_nil ?_
  refine zE ?_
  refine zA ?_
  refine zB ?_
  iterate 2 refine wl_pure Tryz.hT rfl rfl rfl ?_
  refine wl_upd 8 (.int .i64 ((i + 1 : Nat) : Int)) rfl (congrArg (Value.int .i64) (show w64 ((i : Nat) + 1) = ((i + 1 : Nat) : Int) by rw [w64_id (by omega) (by omega)]; omega)) ?_
  iterate 2 refine wl_pure Tryz.hT rfl rfl rfl ?_
  refine wl_rem rfl rfl rfl rfl rfl (by omega) ?_
  refine wl_upd 11 (.int .i64 (nxt l.length i : Nat)) rfl (congrArg (Value.int .i64) (show Int.tmod ((i + 1 : Nat) : Int) (l.length : Nat) = (nxt l.length i : Nat) from (Int.ofNat_tmod _ _).symm)) ?_
  refine wl_pure Tryz.hT rfl rfl rfl ?_
  refine wl_nil ?_
  refine zE ?_
  refine zA ?_
  refine zT Tryz.mixed (by kernel_rfl) ?_
  iterate 2 refine wq_pure Tryz.hT rfl rfl rfl ?_
  refine wq_indexAddr Tryz.hT rfl rfl rfl rfl rfl rfl rfl (by omega) (by omega) ?_
  refine wq_pure Tryz.hT rfl rfl rfl ?_
  refine wq_load rfl rfl rfl rfl (fun W hp => RowAt.load 0 Tryz.hT rfl ((fun W hp => (hrow (nxt l.length i) hi2).hp hp) W hp) rfl) ?_
  iterate 2 refine wq_pure Tryz.hT rfl rfl rfl ?_
  refine wq_indexAddr Tryz.hT rfl rfl rfl rfl rfl rfl rfl (by omega) (by omega) ?_
  refine wq_pure Tryz.hT rfl rfl rfl ?_
  refine wq_load rfl rfl rfl rfl (fun W hp => RowAt.load 1 Tryz.hT rfl ((fun W hp => (hrow (nxt l.length i) hi2).hp hp) W hp) rfl) ?_
  iterate 2 refine wq_pure Tryz.hT rfl rfl rfl ?_
  refine wq_nil ?_
  refine wl_nil ?_
  refine zE ?_
  refine zO ?_
  exact ne_ret2 Tryz.hT rfl (.tmp rfl) (.tmp rfl) () rfl trivial fun W _ => NewBx.nil _ _
def dirX (l : List Sd) (i : Nat) : Int := sgI (w64 ((sd l (nxt l.length i)).x - (sd l i).x))
def dirY (l : List Sd) (i : Nat) : Int := sgI (w64 ((sd l (nxt l.length i)).y - (sd l i).y))
theorem direction_gives (W : World) (p : Option Addr) (cap : Nat) (l : List Sd) (i : Nat) (hn : l.length < 4611686018427387904) (hR : RingP W p l) (hi : i < l.length) :
    CallsR Tryz.prog 108 #[slv p l.length cap, .int .i64 (i : Nat)] W (fun _ : Unit => .tuple #[.int .i64 (dirX l i), .int .i64 (dirY l i)]) (fun _ => True) (fun _ => []) := by
  obtain ⟨b, off, rfl, hrow⟩ := hR.row hi
  refine calls_enter (args := [slv (some ⟨b, off, none⟩) l.length cap, .int .i64 (i : Nat)]) Tryz.func108 rfl rfl rfl ?_
  refine zA ?_
  refine zB ?_
  iterate 2 refine wl_pure Tryz.hT rfl rfl rfl ?_
  refine wl_nil ?_
  refine zE ?_
  refine zA ?_
  refine zB ?_
  iterate 2 refine wl_pure Tryz.hT rfl rfl rfl ?_
  refine wl_call1 rfl rfl rfl rfl rfl rfl (by kernel_rfl) (fun W hp => end_gives W _ cap l i hn (hR.hp hp) hi) ?_
  iterate 5 refine wl_pure Tryz.hT rfl rfl rfl ?_
  refine wl_nil ?_
  refine zE ?_
  refine zA ?_
  refine zT Tryz.mixed (by kernel_rfl) ?_
  iterate 3 refine wq_pure Tryz.hT rfl rfl rfl ?_
  refine wq_indexAddr Tryz.hT rfl rfl rfl rfl rfl rfl rfl (by omega) (by omega) ?_
  refine wq_pure Tryz.hT rfl rfl rfl ?_
  refine wq_load rfl rfl rfl rfl (fun W hp => RowAt.load 0 Tryz.hT rfl ((fun W hp => (hrow i hi).hp hp) W hp) rfl) ?_
  refine wq_pure Tryz.hT rfl rfl rfl ?_
  refine wq_call1 rfl rfl rfl rfl rfl rfl (by kernel_rfl) (fun W _ => (sign_gives ..)) ?_
  iterate 3 refine wq_pure Tryz.hT rfl rfl rfl ?_
  refine wq_indexAddr Tryz.hT rfl rfl rfl rfl rfl rfl rfl (by omega) (by omega) ?_
  refine wq_pure Tryz.hT rfl rfl rfl ?_
  refine wq_load rfl rfl rfl rfl (fun W hp => RowAt.load 1 Tryz.hT rfl ((fun W hp => (hrow i hi).hp hp) W hp) rfl) ?_
  refine wq_pure Tryz.hT rfl rfl rfl ?_
  refine wq_call1 rfl rfl rfl rfl rfl rfl (by kernel_rfl) (fun W _ => (sign_gives ..)) ?_
  iterate 2 refine wq_pure Tryz.hT rfl rfl rfl ?_
  refine wq_nil ?_
  refine wl_nil ?_
  refine zE ?_
  refine zO ?_
  exact ne_ret2 Tryz.hT rfl (.tmp rfl) (.tmp rfl) () rfl trivial fun W _ => NewBx.nil _ _
def trnR (l : List Sd) (i : Nat) : Int := w64 (w64 (dirX l (prv l.length i) * dirY l i) - w64 (dirY l (prv l.length i) * dirX l i))
theorem turn_gives (W : World) (p : Option Addr) (cap : Nat) (l : List Sd) (i : Nat) (hn : l.length < 4611686018427387904) (hR : RingP W p l) (hi : i < l.length) :
    CallsR Tryz.prog 51 #[slv p l.length cap, .int .i64 (i : Nat)] W (fun _ : Unit => .int .i64 (trnR l i)) (fun _ => True) (fun _ => []) := by
  have hi2 := prv_lt hi
  refine calls_enter (args := [slv p l.length cap, .int .i64 (i : Nat)]) Tryz.func51 rfl rfl rfl ?_
  refine zA ?_
  refine zB ?_
  refine wl_pure Tryz.hT rfl rfl rfl ?_
  refine wl_nil ?_
  refine zE ?_
  refine zA ?_
  refine zB ?_
  iterate 6 refine wl_pure Tryz.hT rfl rfl rfl ?_
  refine wl_upd 15 (.int .i64 ((i + l.length - 1 : Nat) : Int)) rfl (congrArg (Value.int .i64) (show w64 (w64 ((i : Nat) + (l.length : Nat)) - 1) = ((i + l.length - 1 : Nat) : Int) by rw [w64_id (x := (i : Nat) + (l.length : Nat)) (by omega) (by omega), w64_id (by omega) (by omega)]; omega)) ?_
  iterate 2 refine wl_pure Tryz.hT rfl rfl rfl ?_
  refine wl_rem rfl rfl rfl rfl rfl (by omega) ?_
  refine wl_upd 18 (.int .i64 (prv l.length i : Nat)) rfl (congrArg (Value.int .i64) (show Int.tmod ((i + l.length - 1 : Nat) : Int) (l.length : Nat) = (prv l.length i : Nat) from (Int.ofNat_tmod _ _).symm)) ?_
  refine wl_call1 rfl rfl rfl rfl rfl rfl (by kernel_rfl) (fun W hp => direction_gives W _ cap l (prv l.length i) hn (hR.hp hp) hi2) ?_
  iterate 5 refine wl_pure Tryz.hT rfl rfl rfl ?_
  refine wl_nil ?_
  refine zE ?_
  refine zA ?_
  refine zB ?_
  iterate 2 refine wl_pure Tryz.hT rfl rfl rfl ?_
  refine wl_call1 rfl rfl rfl rfl rfl rfl (by kernel_rfl) (fun W hp => direction_gives W _ cap l i hn (hR.hp hp) hi) ?_
  iterate 5 refine wl_pure Tryz.hT rfl rfl rfl ?_
  refine wl_nil ?_
  refine zE ?_
  refine zA ?_
  refine zB ?_
  iterate 8 refine wl_pure Tryz.hT rfl rfl rfl ?_
  refine wl_nil ?_
  refine zE ?_
  refine zO ?_
  exact ne_ret1 Tryz.hT rfl (.tmp rfl) () rfl trivial fun W _ => NewBx.nil _ _
def twR (l : List Sd) : Nat → Int
  | 0 => 0
  | k + 1 => w64 (w64 (twR l k + w64 ((sd l k).x * (sd l (nxt l.length k)).y)) - w64 ((sd l (nxt l.length k)).x * (sd l k).y))
theorem twice_gives (W : World) (p : Option Addr) (cap : Nat) (l : List Sd) (hn : l.length < 4611686018427387904) (hR : RingP W p l) :
    CallsR Tryz.prog 53 #[slv p l.length cap] W (fun _ : Unit => .int .i64 (twR l l.length)) (fun _ => True) (fun _ => []) := by
  refine calls_enter (args := [slv p l.length cap]) Tryz.func53 rfl rfl rfl ?_
  refine zA ?_
  refine zB ?_
  refine wl_pure Tryz.hT rfl rfl rfl ?_
  refine wl_nil ?_
  refine zE ?_
  refine zA ?_
  refine zB ?_
  refine wl_pure Tryz.hT rfl rfl rfl ?_
  refine wl_nil ?_
  refine zE ?_
  iterate 2 refine zA ?_
  refine zB ?_
  refine wl_pure Tryz.hT rfl rfl rfl ?_
  refine wl_nil ?_
  refine zE ?_
  refine zH ?_
  refine wc_loop (X := Nat) (fun k => [(0, slv p l.length cap), (3, .int .i64 (twR l k)), (4, .int .i64 (k : Nat))]) (fun _ => []) (fun k => k ≤ l.length) (fun k => l.length - k) 0 (Nat.zero_le _) ⟨rfl, rfl, rfl, trivial⟩ [] rfl ?_
  intro k hk
  iterate 2 refine zA ?_
  refine zB ?_
  iterate 4 refine wl_pure Tryz.hT rfl rfl rfl ?_
  refine wl_nil ?_
  refine zE ?_
  refine wc_cond rfl (fun h => ?_) (fun h => ?_)
  rotate_left
  · have e : k = l.length := by simp at h; omega
    subst e
    refine zJ ?_
    iterate 2 refine zK ?_
    refine zL ?_
    refine zE ?_
    refine zA ?_
    refine zB ?_
    iterate 2 refine wl_pure Tryz.hT rfl rfl rfl ?_
    refine wl_nil ?_
    refine zE ?_
    refine zO ?_
    exact ne_ret1 Tryz.hT rfl (.tmp rfl) () rfl trivial fun W _ => NewBx.nil _ _
  have hk : k < l.length := by simp at h; omega
  clear h
  obtain ⟨b, off, rfl, hrow⟩ := hR.row hk
  refine zI ?_
  refine zE ?_
  refine zA ?_
  refine zH ?_
  refine zA ?_
  refine zB ?_
  iterate 2 refine wl_pure Tryz.hT rfl rfl rfl ?_
  refine wl_call1 rfl rfl rfl rfl rfl rfl (by kernel_rfl) (fun W hp => end_gives W _ cap l k hn (hR.hp hp) hk) ?_
  iterate 5 refine wl_pure Tryz.hT rfl rfl rfl ?_
  refine wl_nil ?_
  refine zE ?_
  refine zT Tryz.mixed (by kernel_rfl) ?_
  iterate 3 refine wq_pure Tryz.hT rfl rfl rfl ?_
  refine wq_indexAddr Tryz.hT rfl rfl rfl rfl rfl rfl rfl (by omega) (by omega) ?_
  refine wq_pure Tryz.hT rfl rfl rfl ?_
  refine wq_load rfl rfl rfl rfl (fun W hp => RowAt.load 0 Tryz.hT rfl ((fun W hp => (hrow k hk).hp hp) W hp) rfl) ?_
  iterate 6 refine wq_pure Tryz.hT rfl rfl rfl ?_
  refine wq_indexAddr Tryz.hT rfl rfl rfl rfl rfl rfl rfl (by omega) (by omega) ?_
  refine wq_pure Tryz.hT rfl rfl rfl ?_
  refine wq_load rfl rfl rfl rfl (fun W hp => RowAt.load 1 Tryz.hT rfl ((fun W hp => (hrow k hk).hp hp) W hp) rfl) ?_
  iterate 3 refine wq_pure Tryz.hT rfl rfl rfl ?_
  refine wq_nil ?_
  refine wl_nil ?_
  refine zN ?_
  refine zE ?_
  refine zB ?_
  iterate 3 refine wl_pure Tryz.hT rfl rfl rfl ?_
  refine wl_nil ?_
  exact ne_loop (k + 1) hk (by omega) ⟨rfl, rfl, congrArg (fun z => some (Value.int .i64 z)) (wrap_id (x := (k : Int) + 1) (by omega) (by omega)), trivial⟩ [] rfl
end Go.Proofs.YtnpfkmbcejgnjaaGreatDoor
namespace Go.Proofs.YtnpfkmbcejgnjaaGreatDoor
open Go Go.RowKit Go.Am
set_option maxRecDepth 10000
-- BOXES 1
def axR (l : List Sd) (i : Nat) : Bool := w64 (w64 (dirX l i * dirX l i) + w64 (dirY l i * dirY l i)) == 1
def okR (l : List Sd) (i : Nat) : Bool := axR l i && !(trnR l i == 0)
def shpR (l : List Sd) : Bool := (List.range l.length).all (okR l) && decide (l.length ≥ 4)
theorem shpR_false {l : List Sd} {k : Nat} (hk : k < l.length) (h : okR l k = false) : shpR l = false := by
  unfold shpR
  rw [all_range_false hk h]; rfl
set_option maxHeartbeats 4000000 in
theorem shapedR_gives (W : World) (p : Option Addr) (cap : Nat) (l : List Sd) (hn : l.length < 4611686018427387904) (hR : RingP W p l) :
    CallsR Tryz.prog 65 #[slv p l.length cap] W (fun _ : Unit => .bool (shpR l)) (fun _ => True) (fun _ => []) := by
  refine calls_enter (args := [slv p l.length cap]) Tryz.func65 rfl rfl rfl ?_
  refine zA ?_
  refine zB ?_
  refine wl_pure Tryz.hT rfl rfl rfl ?_
  refine wl_nil ?_
  refine zE ?_
  iterate 2 refine zA ?_
  refine zB ?_
  refine wl_pure Tryz.hT rfl rfl rfl ?_
  refine wl_nil ?_
  refine zE ?_
  refine zH ?_
  refine wc_loop (X := Nat) (fun k => [(0, slv p l.length cap), (3, .int .i64 (k : Nat))]) (fun _ => []) (fun k => k ≤ l.length ∧ ∀ i, i < k → okR l i = true) (fun k => l.length - k) 0 ⟨Nat.zero_le _, fun i hi => absurd hi (Nat.not_lt_zero _)⟩ ⟨rfl, rfl, trivial⟩ [] rfl ?_
  rintro k ⟨hk, hok⟩
  iterate 2 refine zA ?_
  refine zB ?_
  iterate 4 refine wl_pure Tryz.hT rfl rfl rfl ?_
  refine wl_nil ?_
  refine zE ?_
  refine wc_cond rfl (fun h => ?_) (fun h => ?_)
  rotate_left
  · have e : k = l.length := by simp at h; omega
    subst e
    refine zJ ?_
    iterate 2 refine zK ?_
    refine zL ?_
    refine zE ?_
    refine zA ?_
    refine zB ?_
    iterate 4 refine wl_pure Tryz.hT rfl rfl rfl ?_
    refine wl_nil ?_
    refine zE ?_
    refine zO ?_
    have hall : (List.range l.length).all (okR l) = true := List.all_eq_true.2 fun i hi => hok i (List.mem_range.1 hi)
    have e : shpR l = decide ((l.length : Int) ≥ 4) := by
      unfold shpR
      rw [hall, Bool.true_and]
      by_cases h4 : l.length ≥ 4
      · rw [decide_eq_true h4, decide_eq_true (by omega)]
      · rw [decide_eq_false h4, decide_eq_false (by omega)]
    exact ne_ret1 Tryz.hT rfl (.tmp rfl) () (by rw [e]) trivial fun W _ => NewBx.nil _ _
  have hk : k < l.length := by simp at h; omega
  clear h
  refine zI ?_
  refine zE ?_
  refine zA ?_
  refine zH ?_
  refine zA ?_
  refine zB ?_
  iterate 2 refine wl_pure Tryz.hT rfl rfl rfl ?_
  refine wl_call1 rfl rfl rfl rfl rfl rfl (by kernel_rfl) (fun W hp => direction_gives W _ cap l k hn (hR.hp hp) hk) ?_
  iterate 5 refine wl_pure Tryz.hT rfl rfl rfl ?_
  refine wl_nil ?_
  refine zE ?_
  refine zA ?_
  refine zB ?_
  iterate 9 refine wl_pure Tryz.hT rfl rfl rfl ?_
  refine wl_part 26 rfl (fun h26 => ?_) (fun h26 => ?_)
  · refine wl_skip rfl rfl ?_
    iterate 3 refine wl_skip rfl rfl ?_
    refine wl_pure Tryz.hT rfl rfl rfl ?_
    refine wl_nil ?_
    refine zE ?_
    refine zR rfl ?_
    refine zA ?_
    refine zB ?_
    refine wl_pure Tryz.hT rfl rfl rfl ?_
    refine wl_nil ?_
    refine zE ?_
    refine zO ?_
    refine zQ ?_
    iterate 2 refine zP ?_
    refine zQ ?_
    refine zP ?_
    have h' : (w64 (w64 (dirX l k * dirX l k) + w64 (dirY l k * dirY l k)) != 1) = true := h26
    have hf : okR l k = false := by unfold okR axR; rw [bne_iff_ne] at h'; rw [beq_eq_false_iff_ne.2 h']; rfl
    exact ne_ret1 Tryz.hT rfl (.tmp rfl) () (by rw [shpR_false hk hf]) trivial fun W _ => NewBx.nil _ _
  · refine wl_pure Tryz.hT rfl rfl rfl ?_
    refine wl_pure Tryz.hT rfl rfl rfl ?_
    refine wl_call1 rfl rfl rfl rfl rfl rfl (by kernel_rfl) (fun W hp => turn_gives W _ cap l k hn (hR.hp hp) hk) ?_
    iterate 2 refine wl_pure Tryz.hT rfl rfl rfl ?_
    refine wl_nil ?_
    have h' : (w64 (w64 (dirX l k * dirX l k) + w64 (dirY l k * dirY l k)) != 1) = false := h26
    have ha : axR l k = true := by unfold axR; rw [bne_eq_false_iff_eq] at h'; rw [beq_iff_eq]; exact h'
    refine zE ?_
    refine wc_cond rfl (fun h => ?_) (fun h => ?_)
    · refine zA ?_
      refine zB ?_
      refine wl_pure Tryz.hT rfl rfl rfl ?_
      refine wl_nil ?_
      refine zE ?_
      refine zO ?_
      refine zQ ?_
      iterate 2 refine zP ?_
      refine zQ ?_
      refine zP ?_
      have hf : okR l k = false := by unfold okR; rw [show (trnR l k == 0) = true from h, Bool.not_true, Bool.and_false]
      exact ne_ret1 Tryz.hT rfl (.tmp rfl) () (by rw [shpR_false hk hf]) trivial fun W _ => NewBx.nil _ _
    · have hf : okR l k = true := by unfold okR; rw [ha, show (trnR l k == 0) = false from h]; rfl
      refine zI ?_
      refine zN ?_
      refine zE ?_
      refine zB ?_
      iterate 3 refine wl_pure Tryz.hT rfl rfl rfl ?_
      refine wl_nil ?_
      refine ne_loop (k + 1) ⟨hk, fun i hi => ?_⟩ (by omega) ⟨rfl, congrArg (fun z => some (Value.int .i64 z)) (wrap_id (x := (k : Int) + 1) (by omega) (by omega)), trivial⟩ [] rfl
      by_cases e : i = k
      · subst e; exact hf
      · exact hok i (by omega)
set_option maxHeartbeats 4000000 in
theorem touch_gives (W : World) (p q : Option Addr) (cap caq : Nat) (l m : List Sd) (i k : Nat) (hn : l.length < 4611686018427387904) (hm : m.length < 4611686018427387904) (hR : RingP W p l) (hS : RingP W q m) (hi : i < l.length) (hk : k < m.length) :
    CallsR Tryz.prog 118 #[slv p l.length cap, .int .i64 (i : Nat), slv q m.length caq, .int .i64 (k : Nat)] W (fun _ : Unit => .bool (meetB (sd l i) (sd l (nxt l.length i)) (sd m k) (sd m (nxt m.length k)))) (fun _ => True) (fun _ => []) := by
  obtain ⟨b, off, rfl, hrow⟩ := hR.row hi
  obtain ⟨b', off', rfl, hrow'⟩ := hS.row hk
  refine calls_enter (args := [slv (some ⟨b, off, none⟩) l.length cap, .int .i64 (i : Nat), slv (some ⟨b', off', none⟩) m.length caq, .int .i64 (k : Nat)]) Tryz.func118 rfl rfl rfl ?_
  refine zA ?_
  refine zB ?_
  refine wl_pure Tryz.hT rfl rfl rfl ?_
  refine wl_nil ?_
  refine zE ?_
  refine zA ?_
  refine zB ?_
  iterate 2 refine wl_pure Tryz.hT rfl rfl rfl ?_
  refine wl_call1 rfl rfl rfl rfl rfl rfl (by kernel_rfl) (fun W hp => end_gives W _ cap l i hn (hR.hp hp) hi) ?_
  iterate 5 refine wl_pure Tryz.hT rfl rfl rfl ?_
  refine wl_nil ?_
  refine zE ?_
  refine zA ?_
  refine zB ?_
  iterate 2 refine wl_pure Tryz.hT rfl rfl rfl ?_
  refine wl_call1 rfl rfl rfl rfl rfl rfl (by kernel_rfl) (fun W hp => end_gives W _ caq m k hm (hS.hp hp) hk) ?_
  iterate 5 refine wl_pure Tryz.hT rfl rfl rfl ?_
  refine wl_nil ?_
  obtain ⟨B1, e1⟩ : ∃ b, decide (lox (sd l i) (sd l (nxt l.length i)) ≤ hix (sd m k) (sd m (nxt m.length k))) = b := ⟨_, rfl⟩
  obtain ⟨B2, e2⟩ : ∃ b, decide (lox (sd m k) (sd m (nxt m.length k)) ≤ hix (sd l i) (sd l (nxt l.length i))) = b := ⟨_, rfl⟩
  obtain ⟨B3, e3⟩ : ∃ b, decide (loy (sd l i) (sd l (nxt l.length i)) ≤ hiy (sd m k) (sd m (nxt m.length k))) = b := ⟨_, rfl⟩
  obtain ⟨B4, e4⟩ : ∃ b, decide (loy (sd m k) (sd m (nxt m.length k)) ≤ hiy (sd l i) (sd l (nxt l.length i))) = b := ⟨_, rfl⟩
  have hM : meetB (sd l i) (sd l (nxt l.length i)) (sd m k) (sd m (nxt m.length k)) = (B1 && B2 && B3 && B4) := by unfold meetB; rw [e1, e2, e3, e4]
  refine zE ?_
  refine zA ?_
  refine zT Tryz.mixed (by kernel_rfl) ?_
  iterate 2 refine wq_pure Tryz.hT rfl rfl rfl ?_
  refine wq_indexAddr Tryz.hT rfl rfl rfl rfl rfl rfl rfl (by omega) (by omega) ?_
  refine wq_pure Tryz.hT rfl rfl rfl ?_
  refine wq_load rfl rfl rfl rfl (fun W hp => RowAt.load 0 Tryz.hT rfl ((fun W hp => (hrow i hi).hp hp) W hp) rfl) ?_
  iterate 4 refine wq_pure Tryz.hT rfl rfl rfl ?_
  refine wq_indexAddr Tryz.hT rfl rfl rfl rfl rfl rfl rfl (by omega) (by omega) ?_
  refine wq_pure Tryz.hT rfl rfl rfl ?_
  refine wq_load rfl rfl rfl rfl (fun W hp => RowAt.load 0 Tryz.hT rfl ((fun W hp => (hrow' k hk).hp hp) W hp) rfl) ?_
  iterate 4 refine wq_pure Tryz.hT rfl rfl rfl ?_
  refine wq_part 40 rfl (fun h40 => ?_) (fun h40 => ?_)
  · refine wq_pure Tryz.hT rfl rfl rfl ?_
    refine wq_pure Tryz.hT rfl rfl rfl ?_
    refine wq_indexAddr Tryz.hT rfl rfl rfl rfl rfl rfl rfl (by omega) (by omega) ?_
    refine wq_pure Tryz.hT rfl rfl rfl ?_
    refine wq_load rfl rfl rfl rfl (fun W hp => RowAt.load 0 Tryz.hT rfl ((fun W hp => (hrow' k hk).hp hp) W hp) rfl) ?_
    iterate 4 refine wq_pure Tryz.hT rfl rfl rfl ?_
    refine wq_indexAddr Tryz.hT rfl rfl rfl rfl rfl rfl rfl (by omega) (by omega) ?_
    refine wq_pure Tryz.hT rfl rfl rfl ?_
    refine wq_load rfl rfl rfl rfl (fun W hp => RowAt.load 0 Tryz.hT rfl ((fun W hp => (hrow i hi).hp hp) W hp) rfl) ?_
    iterate 5 refine wq_pure Tryz.hT rfl rfl rfl ?_
    refine wq_part 57 rfl (fun h57 => ?_) (fun h57 => ?_)
    · refine wq_pure Tryz.hT rfl rfl rfl ?_
      refine wq_pure Tryz.hT rfl rfl rfl ?_
      refine wq_indexAddr Tryz.hT rfl rfl rfl rfl rfl rfl rfl (by omega) (by omega) ?_
      refine wq_pure Tryz.hT rfl rfl rfl ?_
      refine wq_load rfl rfl rfl rfl (fun W hp => RowAt.load 1 Tryz.hT rfl ((fun W hp => (hrow i hi).hp hp) W hp) rfl) ?_
      iterate 4 refine wq_pure Tryz.hT rfl rfl rfl ?_
      refine wq_indexAddr Tryz.hT rfl rfl rfl rfl rfl rfl rfl (by omega) (by omega) ?_
      refine wq_pure Tryz.hT rfl rfl rfl ?_
      refine wq_load rfl rfl rfl rfl (fun W hp => RowAt.load 1 Tryz.hT rfl ((fun W hp => (hrow' k hk).hp hp) W hp) rfl) ?_
      iterate 5 refine wq_pure Tryz.hT rfl rfl rfl ?_
      refine wq_part 74 rfl (fun h74 => ?_) (fun h74 => ?_)
      · refine wq_pure Tryz.hT rfl rfl rfl ?_
        refine wq_pure Tryz.hT rfl rfl rfl ?_
        refine wq_indexAddr Tryz.hT rfl rfl rfl rfl rfl rfl rfl (by omega) (by omega) ?_
        refine wq_pure Tryz.hT rfl rfl rfl ?_
        refine wq_load rfl rfl rfl rfl (fun W hp => RowAt.load 1 Tryz.hT rfl ((fun W hp => (hrow' k hk).hp hp) W hp) rfl) ?_
        iterate 4 refine wq_pure Tryz.hT rfl rfl rfl ?_
        refine wq_indexAddr Tryz.hT rfl rfl rfl rfl rfl rfl rfl (by omega) (by omega) ?_
        refine wq_pure Tryz.hT rfl rfl rfl ?_
        refine wq_load rfl rfl rfl rfl (fun W hp => RowAt.load 1 Tryz.hT rfl ((fun W hp => (hrow i hi).hp hp) W hp) rfl) ?_
        iterate 5 refine wq_pure Tryz.hT rfl rfl rfl ?_
        refine wq_nil ?_
        refine wl_nil ?_
        refine zE ?_
        refine zO ?_
        exact ne_ret1 Tryz.hT rfl (.tmp rfl) () (by rw [hM, show B1 = true from e1.symm.trans h40, show B2 = true from e2.symm.trans h57, show B3 = true from e3.symm.trans h74]; exact congrArg Value.bool e4) trivial fun W _ => NewBx.nil _ _
      · refine wq_skip rfl rfl ?_
        iterate 14 refine wq_skip rfl rfl ?_
        iterate 2 refine wq_pure Tryz.hT rfl rfl rfl ?_
        refine wq_nil ?_
        refine wl_nil ?_
        refine zE ?_
        refine zO ?_
        have e : (B1 && B2 && B3 && B4) = false := by first | (rw [show B1 = false from e1.symm.trans h40]; rfl) | (rw [show B2 = false from e2.symm.trans h57]; cases B1 <;> rfl) | (rw [show B3 = false from e3.symm.trans h74]; cases B1 <;> cases B2 <;> rfl)
        exact ne_ret1 Tryz.hT rfl (.tmp rfl) () (by rw [hM, e]) trivial fun W _ => NewBx.nil _ _
    · refine wq_skip rfl rfl ?_
      iterate 14 refine wq_skip rfl rfl ?_
      iterate 2 refine wq_pure Tryz.hT rfl rfl rfl ?_
      iterate 15 refine wq_skip rfl rfl ?_
      iterate 2 refine wq_pure Tryz.hT rfl rfl rfl ?_
      refine wq_nil ?_
      refine wl_nil ?_
      refine zE ?_
      refine zO ?_
      have e : (B1 && B2 && B3 && B4) = false := by first | (rw [show B1 = false from e1.symm.trans h40]; rfl) | (rw [show B2 = false from e2.symm.trans h57]; cases B1 <;> rfl) | (rw [show B3 = false from e3.symm.trans h74]; cases B1 <;> cases B2 <;> rfl)
      exact ne_ret1 Tryz.hT rfl (.tmp rfl) () (by rw [hM, e]) trivial fun W _ => NewBx.nil _ _
  · refine wq_skip rfl rfl ?_
    iterate 14 refine wq_skip rfl rfl ?_
    iterate 2 refine wq_pure Tryz.hT rfl rfl rfl ?_
    iterate 15 refine wq_skip rfl rfl ?_
    iterate 2 refine wq_pure Tryz.hT rfl rfl rfl ?_
    iterate 15 refine wq_skip rfl rfl ?_
    iterate 2 refine wq_pure Tryz.hT rfl rfl rfl ?_
    refine wq_nil ?_
    refine wl_nil ?_
    refine zE ?_
    refine zO ?_
    have e : (B1 && B2 && B3 && B4) = false := by first | (rw [show B1 = false from e1.symm.trans h40]; rfl) | (rw [show B2 = false from e2.symm.trans h57]; cases B1 <;> rfl) | (rw [show B3 = false from e3.symm.trans h74]; cases B1 <;> cases B2 <;> rfl)
    exact ne_ret1 Tryz.hT rfl (.tmp rfl) () (by rw [hM, e]) trivial fun W _ => NewBx.nil _ _
def passR (t u : Sd) (px py : Int) : Bool := (t.x == u.x) && decide (u.x > px) && decide (loy t u ≤ py) && decide (py < hiy t u)
def insR (l : List Sd) (px py : Int) : Nat → Bool
  | 0 => false
  | k + 1 => if passR (sd l k) (sd l (nxt l.length k)) px py = true then !insR l px py k else insR l px py k
set_option maxHeartbeats 4000000 in
theorem insideR_gives (W : World) (p : Option Addr) (cap : Nat) (l : List Sd) (px py : Int) (hn : l.length < 4611686018427387904) (hR : RingP W p l) :
    CallsR Tryz.prog 119 #[slv p l.length cap, .int .i64 px, .int .i64 py] W (fun _ : Unit => .bool (insR l px py l.length)) (fun _ => True) (fun _ => []) := by
  refine calls_enter (args := [slv p l.length cap, .int .i64 px, .int .i64 py]) Tryz.func119 rfl rfl rfl ?_
  refine zA ?_
  refine zB ?_
  refine wl_pure Tryz.hT rfl rfl rfl ?_
  refine wl_nil ?_
  refine zE ?_
  refine zA ?_
  refine zB ?_
  refine wl_pure Tryz.hT rfl rfl rfl ?_
  refine wl_nil ?_
  refine zE ?_
  iterate 2 refine zA ?_
  refine zB ?_
  refine wl_pure Tryz.hT rfl rfl rfl ?_
  refine wl_nil ?_
  refine zE ?_
  refine zH ?_
  refine wc_loop (X := Nat) (fun k => [(0, slv p l.length cap), (1, .int .i64 px), (2, .int .i64 py), (7, .bool (insR l px py k)), (8, .int .i64 (k : Nat))]) (fun _ => []) (fun k => k ≤ l.length) (fun k => l.length - k) 0 (Nat.zero_le _) ⟨rfl, rfl, rfl, rfl, rfl, trivial⟩ [] rfl ?_
  intro k hk
  iterate 2 refine zA ?_
  refine zB ?_
  iterate 4 refine wl_pure Tryz.hT rfl rfl rfl ?_
  refine wl_nil ?_
  refine zE ?_
  refine wc_cond rfl (fun h => ?_) (fun h => ?_)
  rotate_left
  · have e : k = l.length := by simp at h; omega
    subst e
    refine zJ ?_
    iterate 2 refine zK ?_
    refine zL ?_
    refine zE ?_
    refine zA ?_
    refine zB ?_
    iterate 2 refine wl_pure Tryz.hT rfl rfl rfl ?_
    refine wl_nil ?_
    refine zE ?_
    refine zO ?_
    exact ne_ret1 Tryz.hT rfl (.tmp rfl) () rfl trivial fun W _ => NewBx.nil _ _
  have hk : k < l.length := by simp at h; omega
  clear h
  obtain ⟨b, off, rfl, hrow⟩ := hR.row hk
  refine zI ?_
  refine zE ?_
  refine zA ?_
  refine zH ?_
  refine zA ?_
  refine zB ?_
  iterate 2 refine wl_pure Tryz.hT rfl rfl rfl ?_
  refine wl_call1 rfl rfl rfl rfl rfl rfl (by kernel_rfl) (fun W hp => end_gives W _ cap l k hn (hR.hp hp) hk) ?_
  iterate 5 refine wl_pure Tryz.hT rfl rfl rfl ?_
  refine wl_nil ?_
  obtain ⟨B1, e1⟩ : ∃ b, ((sd l k).x == (sd l (nxt l.length k)).x) = b := ⟨_, rfl⟩
  obtain ⟨B2, e2⟩ : ∃ b, decide ((sd l (nxt l.length k)).x > px) = b := ⟨_, rfl⟩
  obtain ⟨B3, e3⟩ : ∃ b, decide (loy (sd l k) (sd l (nxt l.length k)) ≤ py) = b := ⟨_, rfl⟩
  obtain ⟨B4, e4⟩ : ∃ b, decide (py < hiy (sd l k) (sd l (nxt l.length k))) = b := ⟨_, rfl⟩
  have hM : passR (sd l k) (sd l (nxt l.length k)) px py = (B1 && B2 && B3 && B4) := by unfold passR; rw [e1, e2, e3, e4]
  have no : (B1 && B2 && B3 && B4) = false → insR l px py (k + 1) = insR l px py k := fun h => by
    show (if passR (sd l k) (sd l (nxt l.length k)) px py = true then !insR l px py k else insR l px py k) = _
    rw [hM, h, if_neg (by decide)]
  have yes : (B1 && B2 && B3 && B4) = true → insR l px py (k + 1) = !insR l px py k := fun h => by
    show (if passR (sd l k) (sd l (nxt l.length k)) px py = true then !insR l px py k else insR l px py k) = _
    rw [hM, h, if_pos rfl]
  refine zE ?_
  refine zA ?_
  refine zB ?_
  iterate 2 refine wl_pure Tryz.hT rfl rfl rfl ?_
  refine wl_indexAddr Tryz.hT rfl rfl rfl rfl rfl rfl rfl (by omega) (by omega) ?_
  refine wl_pure Tryz.hT rfl rfl rfl ?_
  refine wl_load rfl rfl rfl rfl (fun W hp => RowAt.load 0 Tryz.hT rfl ((fun W hp => (hrow k hk).hp hp) W hp) rfl) ?_
  iterate 3 refine wl_pure Tryz.hT rfl rfl rfl ?_
  refine wl_part 30 rfl (fun h30 => ?_) (fun h30 => ?_)
  · refine wl_pure Tryz.hT rfl rfl rfl ?_
    iterate 4 refine wl_pure Tryz.hT rfl rfl rfl ?_
    refine wl_part 35 rfl (fun h35 => ?_) (fun h35 => ?_)
    · refine wl_pure Tryz.hT rfl rfl rfl ?_
      refine wl_pure Tryz.hT rfl rfl rfl ?_
      refine wl_indexAddr Tryz.hT rfl rfl rfl rfl rfl rfl rfl (by omega) (by omega) ?_
      refine wl_pure Tryz.hT rfl rfl rfl ?_
      refine wl_load rfl rfl rfl rfl (fun W hp => RowAt.load 1 Tryz.hT rfl ((fun W hp => (hrow k hk).hp hp) W hp) rfl) ?_
      iterate 6 refine wl_pure Tryz.hT rfl rfl rfl ?_
      refine wl_part 46 rfl (fun h46 => ?_) (fun h46 => ?_)
      · refine wl_pure Tryz.hT rfl rfl rfl ?_
        iterate 2 refine wl_pure Tryz.hT rfl rfl rfl ?_
        refine wl_indexAddr Tryz.hT rfl rfl rfl rfl rfl rfl rfl (by omega) (by omega) ?_
        refine wl_pure Tryz.hT rfl rfl rfl ?_
        refine wl_load rfl rfl rfl rfl (fun W hp => RowAt.load 1 Tryz.hT rfl ((fun W hp => (hrow k hk).hp hp) W hp) rfl) ?_
        iterate 4 refine wl_pure Tryz.hT rfl rfl rfl ?_
        refine wl_nil ?_
        have e : (B1 && B2 && B3 && B4) = B4 := by rw [show B1 = true from e1.symm.trans h30, show B2 = true from e2.symm.trans h35, show B3 = true from e3.symm.trans h46]; rfl
        refine zE ?_
        refine wc_cond rfl (fun h => ?_) (fun h => ?_)
        · have e5 : (B1 && B2 && B3 && B4) = true := e.trans (e4.symm.trans h)
          refine zB ?_
          iterate 3 refine wl_pure Tryz.hT rfl rfl rfl ?_
          refine wl_nil ?_
          refine zN ?_
          refine zE ?_
          refine zB ?_
          iterate 3 refine wl_pure Tryz.hT rfl rfl rfl ?_
          refine wl_nil ?_
          exact ne_loop (k + 1) hk (by omega) ⟨rfl, rfl, rfl, congrArg (fun z => some (Value.bool z)) (yes e5).symm, congrArg (fun z => some (Value.int .i64 z)) (wrap_id (x := (k : Int) + 1) (by omega) (by omega)), trivial⟩ [] rfl
        · have e5 : (B1 && B2 && B3 && B4) = false := e.trans (e4.symm.trans h)
          refine zI ?_
          refine zN ?_
          refine zE ?_
          refine zB ?_
          iterate 3 refine wl_pure Tryz.hT rfl rfl rfl ?_
          refine wl_nil ?_
          exact ne_loop (k + 1) hk (by omega) ⟨rfl, rfl, rfl, congrArg (fun z => some (Value.bool z)) (no e5).symm, congrArg (fun z => some (Value.int .i64 z)) (wrap_id (x := (k : Int) + 1) (by omega) (by omega)), trivial⟩ [] rfl
      · refine wl_skip rfl rfl ?_
        iterate 8 refine wl_skip rfl rfl ?_
        refine wl_pure Tryz.hT rfl rfl rfl ?_
        refine wl_nil ?_
        have e : (B1 && B2 && B3 && B4) = false := by first | (rw [show B1 = false from e1.symm.trans h30]; rfl) | (rw [show B2 = false from e2.symm.trans h35]; cases B1 <;> rfl) | (rw [show B3 = false from e3.symm.trans h46]; cases B1 <;> cases B2 <;> rfl)
        refine zE ?_
        refine zS rfl ?_
        refine zI ?_
        refine zN ?_
        refine zE ?_
        refine zB ?_
        iterate 3 refine wl_pure Tryz.hT rfl rfl rfl ?_
        refine wl_nil ?_
        exact ne_loop (k + 1) hk (by omega) ⟨rfl, rfl, rfl, congrArg (fun z => some (Value.bool z)) (no e).symm, congrArg (fun z => some (Value.int .i64 z)) (wrap_id (x := (k : Int) + 1) (by omega) (by omega)), trivial⟩ [] rfl
    · refine wl_skip rfl rfl ?_
      iterate 8 refine wl_skip rfl rfl ?_
      iterate 2 refine wl_pure Tryz.hT rfl rfl rfl ?_
      iterate 9 refine wl_skip rfl rfl ?_
      refine wl_pure Tryz.hT rfl rfl rfl ?_
      refine wl_nil ?_
      have e : (B1 && B2 && B3 && B4) = false := by first | (rw [show B1 = false from e1.symm.trans h30]; rfl) | (rw [show B2 = false from e2.symm.trans h35]; cases B1 <;> rfl) | (rw [show B3 = false from e3.symm.trans h46]; cases B1 <;> cases B2 <;> rfl)
      refine zE ?_
      refine zS rfl ?_
      refine zI ?_
      refine zN ?_
      refine zE ?_
      refine zB ?_
      iterate 3 refine wl_pure Tryz.hT rfl rfl rfl ?_
      refine wl_nil ?_
      exact ne_loop (k + 1) hk (by omega) ⟨rfl, rfl, rfl, congrArg (fun z => some (Value.bool z)) (no e).symm, congrArg (fun z => some (Value.int .i64 z)) (wrap_id (x := (k : Int) + 1) (by omega) (by omega)), trivial⟩ [] rfl
  · refine wl_skip rfl rfl ?_
    iterate 2 refine wl_skip rfl rfl ?_
    iterate 2 refine wl_pure Tryz.hT rfl rfl rfl ?_
    iterate 9 refine wl_skip rfl rfl ?_
    iterate 2 refine wl_pure Tryz.hT rfl rfl rfl ?_
    iterate 9 refine wl_skip rfl rfl ?_
    refine wl_pure Tryz.hT rfl rfl rfl ?_
    refine wl_nil ?_
    have e : (B1 && B2 && B3 && B4) = false := by first | (rw [show B1 = false from e1.symm.trans h30]; rfl) | (rw [show B2 = false from e2.symm.trans h35]; cases B1 <;> rfl) | (rw [show B3 = false from e3.symm.trans h46]; cases B1 <;> cases B2 <;> rfl)
    refine zE ?_
    refine zS rfl ?_
    refine zI ?_
    refine zN ?_
    refine zE ?_
    refine zB ?_
    iterate 3 refine wl_pure Tryz.hT rfl rfl rfl ?_
    refine wl_nil ?_
    exact ne_loop (k + 1) hk (by omega) ⟨rfl, rfl, rfl, congrArg (fun z => some (Value.bool z)) (no e).symm, congrArg (fun z => some (Value.int .i64 z)) (wrap_id (x := (k : Int) + 1) (by omega) (by omega)), trivial⟩ [] rfl
end Go.Proofs.YtnpfkmbcejgnjaaGreatDoor
namespace Go.Proofs.YtnpfkmbcejgnjaaGreatDoor
open Go Go.RowKit Go.Am
set_option maxRecDepth 10000
-- BOXES 2
/-- Two sides touch that must not, as the reference asks. -/
def badR (rs : List (List Sd)) (r i s k : Nat) : Bool :=
  !((r == s) && (decide (k ≤ i) || (k == i + 1) || ((i == 0) && (k + 1 == (rg rs r).length)))) && meetB (sd (rg rs r) i) (sd (rg rs r) (nxt (rg rs r).length i)) (sd (rg rs s) k) (sd (rg rs s) (nxt (rg rs s).length k))
theorem badR_crs {rs : List (List Sd)} {r i s k : Nat} (hr : r < rs.length) (hi : i < (rg rs r).length) (hs : s < rs.length) (hk : k < (rg rs s).length) (h : badR rs r i s k = true) : crs rs = true := by
  unfold badR at h
  obtain ⟨h1, h2⟩ := Bool.and_eq_true_iff.1 h
  cases hc : crs rs with
  | true => rfl
  | false =>
    have := (crs_iff rs).1 hc r i s k hr hi hs hk (fun hn => by
      obtain ⟨rfl, hn⟩ := hn
      rw [nxt_val hi, nxt_val hk] at hn
      have : ((r == r) && (decide (k ≤ i) || (k == i + 1) || ((i == 0) && (k + 1 == (rg rs r).length)))) = true := by
        simp only [beq_self_eq_true, Bool.true_and, Bool.or_eq_true, Bool.and_eq_true, decide_eq_true_eq, beq_iff_eq]
        revert hn
        split <;> split <;> intro hn <;> omega
      rw [this] at h1; cases h1)
    rw [show meetB (bsd rs (r, i)) (esd rs (r, i)) (bsd rs (s, k)) (esd rs (s, k)) = true from h2] at this
    cases this
theorem crs_noBad {rs : List (List Sd)} (h : ∀ r i s k, r < rs.length → i < (rg rs r).length → s < rs.length → k < (rg rs s).length → r ≤ s → badR rs r i s k = false) : crs rs = false := by
  have one : ∀ r i s k, r < rs.length → i < (rg rs r).length → s < rs.length → k < (rg rs s).length → (r < s ∨ (r = s ∧ i < k)) → ¬ near rs r i s k → meetB (bsd rs (r, i)) (esd rs (r, i)) (bsd rs (s, k)) (esd rs (s, k)) = false := fun r i s k hr hi hs hk ho hn => by
    have hb := h r i s k hr hi hs hk (by omega)
    unfold badR at hb
    have : ((r == s) && (decide (k ≤ i) || (k == i + 1) || ((i == 0) && (k + 1 == (rg rs r).length)))) = false := by
      by_cases e : r = s
      · subst e
        have hik : i < k := by omega
        rw [beq_self_eq_true, Bool.true_and, Bool.eq_false_iff]
        intro h2
        refine hn ⟨rfl, ?_⟩
        rw [nxt_val hi, nxt_val hk]
        simp only [Bool.or_eq_true, Bool.and_eq_true, decide_eq_true_eq, beq_iff_eq] at h2
        split <;> split <;> omega
      · rw [beq_eq_false_iff_ne.2 e]; rfl
    rw [this, Bool.not_false, Bool.true_and] at hb
    exact hb
  refine (crs_iff rs).2 fun r i s k hr hi hs hk hn => ?_
  by_cases ho : r < s ∨ (r = s ∧ i < k)
  · exact one r i s k hr hi hs hk ho hn
  · rw [meet_comm]
    have hne : ¬ (r = s ∧ i = k) := fun ⟨e1, e2⟩ => hn ⟨e1, .inl e2⟩
    refine one s k r i hs hk hr hi (by omega) fun hn2 => hn ?_
    obtain ⟨rfl, hn2⟩ := hn2
    exact ⟨rfl, by omega⟩
set_option maxHeartbeats 8000000 in
theorem crossedR_gives (W : World) (p : Option Addr) (cap : Nat) (rs : List (List Sd)) (hn : rs.length < 4611686018427387904) (hl : ∀ l ∈ rs, l.length < 4611686018427387904) (hR : RingsP W p rs) :
    CallsR Tryz.prog 66 #[slv p rs.length cap] W (fun _ : Unit => .bool (crs rs)) (fun _ => True) (fun _ => []) := by
  refine calls_enter (args := [slv p rs.length cap]) Tryz.func66 rfl rfl rfl ?_
  refine zA ?_
  refine zB ?_
  refine wl_pure Tryz.hT rfl rfl rfl ?_
  refine wl_nil ?_
  refine zE ?_
  iterate 2 refine zA ?_
  refine zB ?_
  refine wl_pure Tryz.hT rfl rfl rfl ?_
  refine wl_nil ?_
  refine zE ?_
  refine zH ?_
  refine wc_loop (X := Nat) (fun r => [(0, slv p rs.length cap), (3, .int .i64 (r : Nat))]) (fun _ => [])
    (fun r => r ≤ rs.length ∧ ∀ r' i s k, r' < r → r' < rs.length → i < (rg rs r').length → s < rs.length → k < (rg rs s).length → r' ≤ s → badR rs r' i s k = false) (fun r => rs.length - r) 0 ⟨Nat.zero_le _, fun r' i s k h => absurd h (Nat.not_lt_zero _)⟩ ⟨rfl, rfl, trivial⟩ [] rfl ?_
  rintro r ⟨hr, P1⟩
  iterate 2 refine zA ?_
  refine zB ?_
  iterate 4 refine wl_pure Tryz.hT rfl rfl rfl ?_
  refine wl_nil ?_
  refine zE ?_
  refine wc_cond rfl (fun h => ?_) (fun h => ?_)
  rotate_left
  · have e : r = rs.length := by simp at h; omega
    subst e
    refine zJ ?_
    iterate 2 refine zK ?_
    refine zL ?_
    refine zE ?_
    refine zA ?_
    refine zB ?_
    refine wl_pure Tryz.hT rfl rfl rfl ?_
    refine wl_nil ?_
    refine zE ?_
    refine zO ?_
    have hc : crs rs = false := crs_noBad fun r' i s k h1 h2 h3 h4 h5 => P1 r' i s k h1 h1 h2 h3 h4 h5
    exact ne_ret1 Tryz.hT rfl (.tmp rfl) () (by rw [hc]) trivial fun W _ => NewBx.nil _ _
  have hr : r < rs.length := by simp at h; omega
  clear h
  obtain ⟨b, off, rfl, hrow⟩ := hR.row hr
  obtain ⟨q, cap2, hq1, hq2⟩ := hrow r hr
  have hlr := hl _ (List.mem_of_getElem? (rg_get hr))
  refine zI ?_
  refine zE ?_
  refine zA ?_
  refine zH ?_
  refine zA ?_
  refine zB ?_
  refine wl_pure Tryz.hT rfl rfl rfl ?_
  refine wl_nil ?_
  refine zE ?_
  refine zH ?_
  refine wc_loop (X := Nat) (fun i => [(0, slv (some ⟨b, off, none⟩) rs.length cap), (3, .int .i64 (r : Nat)), (4, .int .i64 (i : Nat))]) (fun _ => [])
    (fun i => i ≤ (rg rs r).length ∧ ∀ i' s k, i' < i → i' < (rg rs r).length → s < rs.length → k < (rg rs s).length → r ≤ s → badR rs r i' s k = false) (fun i => (rg rs r).length - i) 0 ⟨Nat.zero_le _, fun i' s k h => absurd h (Nat.not_lt_zero _)⟩ ⟨rfl, rfl, rfl, trivial⟩ [] rfl ?_
  rintro i ⟨hi, P2⟩
  iterate 2 refine zA ?_
  refine zB ?_
  iterate 3 refine wl_pure Tryz.hT rfl rfl rfl ?_
  refine wl_indexAddr Tryz.hT rfl rfl rfl rfl rfl rfl rfl (by omega) (by omega) ?_
  refine wl_load rfl rfl rfl rfl (fun W hp => RowAt.load 0 Tryz.hT rfl ((fun W hp => hq1.hp hp) W hp) rfl) ?_
  iterate 2 refine wl_pure Tryz.hT rfl rfl rfl ?_
  refine wl_nil ?_
  refine zE ?_
  refine wc_cond rfl (fun h => ?_) (fun h => ?_)
  rotate_left
  · have e : i = (rg rs r).length := by simp at h; omega
    subst e
    refine zJ ?_
    iterate 2 refine zK ?_
    refine zL ?_
    refine zN ?_
    refine zE ?_
    refine zB ?_
    iterate 3 refine wl_pure Tryz.hT rfl rfl rfl ?_
    refine wl_nil ?_
    refine ne_loop (r + 1) ⟨hr, fun r' i' s k h0 h1 h2 h3 h4 h5 => ?_⟩ (by omega) ⟨rfl, congrArg (fun z => some (Value.int .i64 z)) (wrap_id (x := (r : Int) + 1) (by omega) (by omega)), trivial⟩ [] rfl
    by_cases e : r' = r
    · subst e; exact P2 i' s k h2 h2 h3 h4 h5
    · exact P1 r' i' s k (by omega) h1 h2 h3 h4 h5
  have hi : i < (rg rs r).length := by simp at h; omega
  clear h
  refine zI ?_
  refine zE ?_
  refine zA ?_
  refine zH ?_
  refine zA ?_
  refine zB ?_
  iterate 2 refine wl_pure Tryz.hT rfl rfl rfl ?_
  refine wl_nil ?_
  refine zE ?_
  refine zH ?_
  refine wc_loop (X := Nat) (fun s => [(0, slv (some ⟨b, off, none⟩) rs.length cap), (3, .int .i64 (r : Nat)), (4, .int .i64 (i : Nat)), (5, .int .i64 (s : Nat))]) (fun _ => [])
    (fun s => s ≤ rs.length ∧ r ≤ s ∧ ∀ s' k, s' < s → s' < rs.length → k < (rg rs s').length → r ≤ s' → badR rs r i s' k = false) (fun s => rs.length - s) r ⟨by omega, Nat.le_refl _, fun s' k h0 _ _ h5 => absurd h0 (by omega)⟩ ⟨rfl, rfl, rfl, rfl, trivial⟩ [] rfl ?_
  rintro s ⟨hs, hrs, P3⟩
  iterate 2 refine zA ?_
  refine zB ?_
  iterate 4 refine wl_pure Tryz.hT rfl rfl rfl ?_
  refine wl_nil ?_
  refine zE ?_
  refine wc_cond rfl (fun h => ?_) (fun h => ?_)
  rotate_left
  · have e : s = rs.length := by simp at h; omega
    subst e
    refine zJ ?_
    iterate 2 refine zK ?_
    refine zL ?_
    refine zN ?_
    refine zE ?_
    refine zB ?_
    iterate 3 refine wl_pure Tryz.hT rfl rfl rfl ?_
    refine wl_nil ?_
    refine ne_loop (i + 1) ⟨hi, fun i' s k h0 h2 h3 h4 h5 => ?_⟩ (by omega) ⟨rfl, rfl, congrArg (fun z => some (Value.int .i64 z)) (wrap_id (x := (i : Int) + 1) (by omega) (by omega)), trivial⟩ [] rfl
    by_cases e : i' = i
    · subst e; exact P3 s k h3 h3 h4 h5
    · exact P2 i' s k (by omega) h2 h3 h4 h5
  have hs : s < rs.length := by simp at h; omega
  clear h
  obtain ⟨q', cap3, hq3, hq4⟩ := hrow s hs
  have hls := hl _ (List.mem_of_getElem? (rg_get hs))
  refine zI ?_
  refine zE ?_
  refine zA ?_
  refine zH ?_
  refine zA ?_
  refine zB ?_
  refine wl_pure Tryz.hT rfl rfl rfl ?_
  refine wl_nil ?_
  refine zE ?_
  refine zH ?_
  refine wc_loop (X := Nat) (fun k => [(0, slv (some ⟨b, off, none⟩) rs.length cap), (3, .int .i64 (r : Nat)), (4, .int .i64 (i : Nat)), (5, .int .i64 (s : Nat)), (6, .int .i64 (k : Nat))]) (fun _ => [])
    (fun k => k ≤ (rg rs s).length ∧ ∀ k', k' < k → badR rs r i s k' = false) (fun k => (rg rs s).length - k) 0 ⟨Nat.zero_le _, fun k' h => absurd h (Nat.not_lt_zero _)⟩ ⟨rfl, rfl, rfl, rfl, rfl, trivial⟩ [] rfl ?_
  rintro k ⟨hk, P4⟩
  iterate 2 refine zA ?_
  refine zB ?_
  iterate 3 refine wl_pure Tryz.hT rfl rfl rfl ?_
  refine wl_indexAddr Tryz.hT rfl rfl rfl rfl rfl rfl rfl (by omega) (by omega) ?_
  refine wl_load rfl rfl rfl rfl (fun W hp => RowAt.load 0 Tryz.hT rfl ((fun W hp => hq3.hp hp) W hp) rfl) ?_
  iterate 2 refine wl_pure Tryz.hT rfl rfl rfl ?_
  refine wl_nil ?_
  refine zE ?_
  refine wc_cond rfl (fun h => ?_) (fun h => ?_)
  rotate_left
  · have e : k = (rg rs s).length := by simp at h; omega
    subst e
    refine zJ ?_
    iterate 2 refine zK ?_
    refine zL ?_
    refine zN ?_
    refine zE ?_
    refine zB ?_
    iterate 3 refine wl_pure Tryz.hT rfl rfl rfl ?_
    refine wl_nil ?_
    refine ne_loop (s + 1) ⟨hs, by omega, fun s' k h0 h3 h4 h5 => ?_⟩ (by omega) ⟨rfl, rfl, rfl, congrArg (fun z => some (Value.int .i64 z)) (wrap_id (x := (s : Int) + 1) (by omega) (by omega)), trivial⟩ [] rfl
    by_cases e : s' = s
    · subst e; exact P4 k h4
    · exact P3 s' k (by omega) h3 h4 h5
  have hk : k < (rg rs s).length := by simp at h; omega
  clear h
  have fin : badR rs r i s k = false → ∀ k', k' < k + 1 → badR rs r i s k' = false := fun h k' hk' => by
    by_cases e : k' = k
    · subst e; exact h
    · exact P4 k' (by omega)
  have e1 : ∀ z : Int, z = (k : Int) + 1 → w64 z = ((k + 1 : Nat) : Int) := fun z h => by rw [h, w64_id (by omega) (by omega)]; omega
  -- the side is left out
  have skip : ((r == s) && (decide (k ≤ i) || (k == i + 1) || ((i == 0) && (k + 1 == (rg rs r).length)))) = true → badR rs r i s k = false := fun h => by unfold badR; rw [h]; rfl
  have test : ((r == s) && (decide (k ≤ i) || (k == i + 1) || ((i == 0) && (k + 1 == (rg rs r).length)))) = false → badR rs r i s k = meetB (sd (rg rs r) i) (sd (rg rs r) (nxt (rg rs r).length i)) (sd (rg rs s) k) (sd (rg rs s) (nxt (rg rs s).length k)) := fun h => by unfold badR; rw [h]; rfl
  obtain ⟨C1, c1⟩ : ∃ b, ((r : Int) == (s : Int)) = b := ⟨_, rfl⟩
  obtain ⟨C2, c2⟩ : ∃ b, decide ((k : Int) ≤ (i : Int)) = b := ⟨_, rfl⟩
  obtain ⟨C3, c3⟩ : ∃ b, ((k : Int) == w64 ((i : Int) + 1)) = b := ⟨_, rfl⟩
  obtain ⟨C4, c4⟩ : ∃ b, ((i : Int) == 0) = b := ⟨_, rfl⟩
  obtain ⟨C5, c5⟩ : ∃ b, ((k : Int) == w64 (((rg rs r).length : Nat) - 1)) = b := ⟨_, rfl⟩
  have hC : ((r == s) && (decide (k ≤ i) || (k == i + 1) || ((i == 0) && (k + 1 == (rg rs r).length)))) = (C1 && (C2 || C3 || (C4 && C5))) := by
    rw [w64_id (by omega) (by omega)] at c3 c5
    rw [← c1, ← c2, ← c3, ← c4, ← c5, natInt_beq]
    have a2 : decide (k ≤ i) = decide ((k : Int) ≤ (i : Int)) := by by_cases h : k ≤ i; rw [decide_eq_true h, decide_eq_true (by omega)]; rw [decide_eq_false h, decide_eq_false (by omega)]
    have a3 : (k == i + 1) = ((k : Int) == (i : Int) + 1) := by rw [Bool.eq_iff_iff, beq_iff_eq, beq_iff_eq]; omega
    have a4 : (i == 0) = ((i : Int) == 0) := by rw [Bool.eq_iff_iff, beq_iff_eq, beq_iff_eq]; omega
    have a5 : (k + 1 == (rg rs r).length) = ((k : Int) == ((rg rs r).length : Nat) - 1) := by rw [Bool.eq_iff_iff, beq_iff_eq, beq_iff_eq]; omega
    rw [a2, a3, a4, a5]
  refine zI ?_
  refine zE ?_
  refine zA ?_
  refine zH ?_
  refine zA ?_
  refine zB ?_
  iterate 2 refine wl_pure Tryz.hT rfl rfl rfl ?_
  refine wl_indexAddr Tryz.hT rfl rfl rfl rfl rfl rfl rfl (by omega) (by omega) ?_
  refine wl_load rfl rfl rfl rfl (fun W hp => RowAt.load 0 Tryz.hT rfl ((fun W hp => hq1.hp hp) W hp) rfl) ?_
  iterate 2 refine wl_pure Tryz.hT rfl rfl rfl ?_
  refine wl_nil ?_
  refine zE ?_
  iterate 2 refine zA ?_
  refine zB ?_
  iterate 4 refine wl_pure Tryz.hT rfl rfl rfl ?_
  refine wl_part 47 rfl (fun h47 => ?_) (fun h47 => ?_)
  · refine wl_pure Tryz.hT rfl rfl rfl ?_
    iterate 3 refine wl_pure Tryz.hT rfl rfl rfl ?_
    refine wl_part 51 rfl (fun h51 => ?_) (fun h51 => ?_)
    · refine wl_skip rfl rfl ?_
      iterate 3 refine wl_skip rfl rfl ?_
      iterate 2 refine wl_pure Tryz.hT rfl rfl rfl ?_
      iterate 8 refine wl_skip rfl rfl ?_
      iterate 2 refine wl_pure Tryz.hT rfl rfl rfl ?_
      refine wl_nil ?_
      have e : (C1 && (C2 || C3 || (C4 && C5))) = true := by first | (rw [show C1 = true from c1.symm.trans h47, show C2 = true from c2.symm.trans h51]; rfl) | (rw [show C1 = true from c1.symm.trans h47, show C3 = true from c3.symm.trans h57]; cases C2 <;> rfl)
      refine zE ?_
      refine zR rfl ?_
      refine zJ ?_
      refine zK ?_
      refine zL ?_
      refine zE ?_
      refine zB ?_
      iterate 3 refine wl_pure Tryz.hT rfl rfl rfl ?_
      refine wl_nil ?_
      exact ne_loop (k + 1) ⟨hk, fin (skip (hC.trans e))⟩ (by omega) ⟨rfl, rfl, rfl, rfl, congrArg (fun z => some (Value.int .i64 z)) (wrap_id (x := (k : Int) + 1) (by omega) (by omega)), trivial⟩ [] rfl
    · refine wl_pure Tryz.hT rfl rfl rfl ?_
      iterate 5 refine wl_pure Tryz.hT rfl rfl rfl ?_
      refine wl_part 57 rfl (fun h57 => ?_) (fun h57 => ?_)
      · refine wl_skip rfl rfl ?_
        iterate 7 refine wl_skip rfl rfl ?_
        iterate 2 refine wl_pure Tryz.hT rfl rfl rfl ?_
        refine wl_nil ?_
        have e : (C1 && (C2 || C3 || (C4 && C5))) = true := by first | (rw [show C1 = true from c1.symm.trans h47, show C2 = true from c2.symm.trans h51]; rfl) | (rw [show C1 = true from c1.symm.trans h47, show C3 = true from c3.symm.trans h57]; cases C2 <;> rfl)
        refine zE ?_
        refine zR rfl ?_
        refine zJ ?_
        refine zK ?_
        refine zL ?_
        refine zE ?_
        refine zB ?_
        iterate 3 refine wl_pure Tryz.hT rfl rfl rfl ?_
        refine wl_nil ?_
        exact ne_loop (k + 1) ⟨hk, fin (skip (hC.trans e))⟩ (by omega) ⟨rfl, rfl, rfl, rfl, congrArg (fun z => some (Value.int .i64 z)) (wrap_id (x := (k : Int) + 1) (by omega) (by omega)), trivial⟩ [] rfl
      · refine wl_pure Tryz.hT rfl rfl rfl ?_
        iterate 2 refine wl_pure Tryz.hT rfl rfl rfl ?_
        refine wl_part 60 rfl (fun h60 => ?_) (fun h60 => ?_)
        · refine wl_pure Tryz.hT rfl rfl rfl ?_
          iterate 6 refine wl_pure Tryz.hT rfl rfl rfl ?_
          refine wl_nil ?_
          refine zE ?_
          refine wc_cond rfl (fun hx => ?_) (fun hx => ?_)
          · have e : (C1 && (C2 || C3 || (C4 && C5))) = true := by first | (rw [show C1 = true from c1.symm.trans h47, show C3 = true from c3.symm.trans h57]; cases C2 <;> rfl) | (rw [show C1 = true from c1.symm.trans h47, show C4 = true from c4.symm.trans h60, show C5 = true from c5.symm.trans hx]; cases C2 <;> cases C3 <;> rfl) | (rw [show C1 = true from c1.symm.trans h47, show C3 = true from c3.symm.trans hx]; cases C2 <;> rfl)
            refine zJ ?_
            refine zK ?_
            refine zL ?_
            refine zE ?_
            refine zB ?_
            iterate 3 refine wl_pure Tryz.hT rfl rfl rfl ?_
            refine wl_nil ?_
            exact ne_loop (k + 1) ⟨hk, fin (skip (hC.trans e))⟩ (by omega) ⟨rfl, rfl, rfl, rfl, congrArg (fun z => some (Value.int .i64 z)) (wrap_id (x := (k : Int) + 1) (by omega) (by omega)), trivial⟩ [] rfl
          · have e : (C1 && (C2 || C3 || (C4 && C5))) = false := by first | (rw [show C2 = false from c2.symm.trans h51, show C3 = false from c3.symm.trans h57, show C5 = false from c5.symm.trans hx, Bool.and_false]; cases C1 <;> rfl)
            refine zI ?_
            refine zE ?_
            refine zA ?_
            refine zT Tryz.mixed (by kernel_rfl) ?_
            iterate 2 refine wq_pure Tryz.hT rfl rfl rfl ?_
            refine wq_indexAddr Tryz.hT rfl rfl rfl rfl rfl rfl rfl (by omega) (by omega) ?_
            refine wq_load rfl rfl rfl rfl (fun W hp => RowAt.load 0 Tryz.hT rfl ((fun W hp => hq1.hp hp) W hp) rfl) ?_
            iterate 3 refine wq_pure Tryz.hT rfl rfl rfl ?_
            refine wq_indexAddr Tryz.hT rfl rfl rfl rfl rfl rfl rfl (by omega) (by omega) ?_
            refine wq_load rfl rfl rfl rfl (fun W hp => RowAt.load 0 Tryz.hT rfl ((fun W hp => hq3.hp hp) W hp) rfl) ?_
            refine wq_pure Tryz.hT rfl rfl rfl ?_
            refine wq_call1 rfl rfl rfl rfl rfl rfl (by kernel_rfl) (fun W hp => touch_gives W q q' cap2 cap3 (rg rs r) (rg rs s) i k hlr hls (hq2.hp hp) (hq4.hp hp) hi hk) ?_
            refine wq_nil ?_
            refine wl_nil ?_
            refine zE ?_
            refine wc_cond rfl (fun h => ?_) (fun h => ?_)
            · refine zA ?_
              refine zB ?_
              refine wl_pure Tryz.hT rfl rfl rfl ?_
              refine wl_nil ?_
              refine zE ?_
              refine zO ?_
              refine zQ ?_
              iterate 2 refine zP ?_
              iterate 2 refine zQ ?_
              iterate 2 refine zP ?_
              iterate 2 refine zQ ?_
              iterate 2 refine zP ?_
              iterate 2 refine zQ ?_
              iterate 2 refine zP ?_
              refine zQ ?_
              refine zP ?_
              have hc : crs rs = true := badR_crs hr hi hs hk ((test (hC.trans e)).trans h)
              exact ne_ret1 Tryz.hT rfl (.tmp rfl) () (by rw [hc]) trivial fun W _ => NewBx.nil _ _
            · refine zI ?_
              refine zN ?_
              refine zE ?_
              refine zB ?_
              iterate 3 refine wl_pure Tryz.hT rfl rfl rfl ?_
              refine wl_nil ?_
              exact ne_loop (k + 1) ⟨hk, fin ((test (hC.trans e)).trans h)⟩ (by omega) ⟨rfl, rfl, rfl, rfl, congrArg (fun z => some (Value.int .i64 z)) (wrap_id (x := (k : Int) + 1) (by omega) (by omega)), trivial⟩ [] rfl
        · refine wl_skip rfl rfl ?_
          iterate 3 refine wl_skip rfl rfl ?_
          iterate 3 refine wl_pure Tryz.hT rfl rfl rfl ?_
          refine wl_nil ?_
          have e : (C1 && (C2 || C3 || (C4 && C5))) = false := by first | (rw [show C1 = false from c1.symm.trans h47]; rfl) | (rw [show C2 = false from c2.symm.trans h51, show C3 = false from c3.symm.trans h57, show C4 = false from c4.symm.trans h60, Bool.false_and]; cases C1 <;> rfl)
          refine zE ?_
          refine zS rfl ?_
          refine zI ?_
          refine zE ?_
          refine zA ?_
          refine zT Tryz.mixed (by kernel_rfl) ?_
          iterate 2 refine wq_pure Tryz.hT rfl rfl rfl ?_
          refine wq_indexAddr Tryz.hT rfl rfl rfl rfl rfl rfl rfl (by omega) (by omega) ?_
          refine wq_load rfl rfl rfl rfl (fun W hp => RowAt.load 0 Tryz.hT rfl ((fun W hp => hq1.hp hp) W hp) rfl) ?_
          iterate 3 refine wq_pure Tryz.hT rfl rfl rfl ?_
          refine wq_indexAddr Tryz.hT rfl rfl rfl rfl rfl rfl rfl (by omega) (by omega) ?_
          refine wq_load rfl rfl rfl rfl (fun W hp => RowAt.load 0 Tryz.hT rfl ((fun W hp => hq3.hp hp) W hp) rfl) ?_
          refine wq_pure Tryz.hT rfl rfl rfl ?_
          refine wq_call1 rfl rfl rfl rfl rfl rfl (by kernel_rfl) (fun W hp => touch_gives W q q' cap2 cap3 (rg rs r) (rg rs s) i k hlr hls (hq2.hp hp) (hq4.hp hp) hi hk) ?_
          refine wq_nil ?_
          refine wl_nil ?_
          refine zE ?_
          refine wc_cond rfl (fun h => ?_) (fun h => ?_)
          · refine zA ?_
            refine zB ?_
            refine wl_pure Tryz.hT rfl rfl rfl ?_
            refine wl_nil ?_
            refine zE ?_
            refine zO ?_
            refine zQ ?_
            iterate 2 refine zP ?_
            iterate 2 refine zQ ?_
            iterate 2 refine zP ?_
            iterate 2 refine zQ ?_
            iterate 2 refine zP ?_
            iterate 2 refine zQ ?_
            iterate 2 refine zP ?_
            refine zQ ?_
            refine zP ?_
            have hc : crs rs = true := badR_crs hr hi hs hk ((test (hC.trans e)).trans h)
            exact ne_ret1 Tryz.hT rfl (.tmp rfl) () (by rw [hc]) trivial fun W _ => NewBx.nil _ _
          · refine zI ?_
            refine zN ?_
            refine zE ?_
            refine zB ?_
            iterate 3 refine wl_pure Tryz.hT rfl rfl rfl ?_
            refine wl_nil ?_
            exact ne_loop (k + 1) ⟨hk, fin ((test (hC.trans e)).trans h)⟩ (by omega) ⟨rfl, rfl, rfl, rfl, congrArg (fun z => some (Value.int .i64 z)) (wrap_id (x := (k : Int) + 1) (by omega) (by omega)), trivial⟩ [] rfl
  · refine wl_skip rfl rfl ?_
    iterate 18 refine wl_skip rfl rfl ?_
    refine wl_pure Tryz.hT rfl rfl rfl ?_
    refine wl_nil ?_
    have e : (C1 && (C2 || C3 || (C4 && C5))) = false := by first | (rw [show C1 = false from c1.symm.trans h47]; rfl) | (rw [show C2 = false from c2.symm.trans h51, show C3 = false from c3.symm.trans h57, show C4 = false from c4.symm.trans h60, Bool.false_and]; cases C1 <;> rfl)
    refine zE ?_
    refine zS rfl ?_
    refine zI ?_
    refine zE ?_
    refine zA ?_
    refine zT Tryz.mixed (by kernel_rfl) ?_
    iterate 2 refine wq_pure Tryz.hT rfl rfl rfl ?_
    refine wq_indexAddr Tryz.hT rfl rfl rfl rfl rfl rfl rfl (by omega) (by omega) ?_
    refine wq_load rfl rfl rfl rfl (fun W hp => RowAt.load 0 Tryz.hT rfl ((fun W hp => hq1.hp hp) W hp) rfl) ?_
    iterate 3 refine wq_pure Tryz.hT rfl rfl rfl ?_
    refine wq_indexAddr Tryz.hT rfl rfl rfl rfl rfl rfl rfl (by omega) (by omega) ?_
    refine wq_load rfl rfl rfl rfl (fun W hp => RowAt.load 0 Tryz.hT rfl ((fun W hp => hq3.hp hp) W hp) rfl) ?_
    refine wq_pure Tryz.hT rfl rfl rfl ?_
    refine wq_call1 rfl rfl rfl rfl rfl rfl (by kernel_rfl) (fun W hp => touch_gives W q q' cap2 cap3 (rg rs r) (rg rs s) i k hlr hls (hq2.hp hp) (hq4.hp hp) hi hk) ?_
    refine wq_nil ?_
    refine wl_nil ?_
    refine zE ?_
    refine wc_cond rfl (fun h => ?_) (fun h => ?_)
    · refine zA ?_
      refine zB ?_
      refine wl_pure Tryz.hT rfl rfl rfl ?_
      refine wl_nil ?_
      refine zE ?_
      refine zO ?_
      refine zQ ?_
      iterate 2 refine zP ?_
      iterate 2 refine zQ ?_
      iterate 2 refine zP ?_
      iterate 2 refine zQ ?_
      iterate 2 refine zP ?_
      iterate 2 refine zQ ?_
      iterate 2 refine zP ?_
      refine zQ ?_
      refine zP ?_
      have hc : crs rs = true := badR_crs hr hi hs hk ((test (hC.trans e)).trans h)
      exact ne_ret1 Tryz.hT rfl (.tmp rfl) () (by rw [hc]) trivial fun W _ => NewBx.nil _ _
    · refine zI ?_
      refine zN ?_
      refine zE ?_
      refine zB ?_
      iterate 3 refine wl_pure Tryz.hT rfl rfl rfl ?_
      refine wl_nil ?_
      exact ne_loop (k + 1) ⟨hk, fin ((test (hC.trans e)).trans h)⟩ (by omega) ⟨rfl, rfl, rfl, rfl, congrArg (fun z => some (Value.int .i64 z)) (wrap_id (x := (k : Int) + 1) (by omega) (by omega)), trivial⟩ [] rfl
end Go.Proofs.YtnpfkmbcejgnjaaGreatDoor
