/-
  slices.Reverse over sides: the row is turned round in its place.
-/
import Derived.Test.YtnpfkmbcejgnjaaGreatDoorCopied
import Derived.Test.YtnpfkmbcejgnjaaGreatDoorAp
namespace Go.Proofs.YtnpfkmbcejgnjaaGreatDoor
open Go Go.RowKit Go.Am
set_option maxRecDepth 10000
-- BOXES 2
theorem cellsOf_split {L : List Sd} {j : Nat} (hj : j < L.length) : cellsOf L = cellsOf (L.take j) ++ ((sd L j).cells ++ cellsOf (L.drop (j + 1))) := by
  have e : L = L.take j ++ (sd L j :: L.drop (j + 1)) := by
    have h := List.take_append_drop j L
    rw [List.drop_eq_getElem_cons hj] at h
    rw [show sd L j = L[j] by simp [sd, hj]]
    exact h.symm
  conv => lhs; rw [e]
  rw [cellsOf_append]
  rfl
/-- A whole side stored into a row. -/
theorem set_side (s : Sd) {junk : List Value} {L : List Sd} {j : Nat} (hj : j < L.length) : splice (cellsOf L ++ junk) (j * 7) s.val.cells.toList = cellsOf (L.set j s) ++ junk := by
  have hl : (cellsOf (L.take j)).length = j * 7 := by rw [cellsOf_length, List.length_take, Nat.min_eq_left (by omega)]
  have e2 : cellsOf (L.set j s) = cellsOf (L.take j) ++ (s.cells ++ cellsOf (L.drop (j + 1))) := by
    rw [cellsOf_split (L := L.set j s) (j := j) (by rw [List.length_set]; exact hj), List.take_set_of_le (Nat.le_refl _), List.drop_set_of_lt (by omega), show sd (L.set j s) j = s by simp [sd, hj]]
  rw [cellsOf_split hj, e2]
  simp only [List.append_assoc]
  rw [show j * 7 = (cellsOf (L.take j)).length + 0 by omega, splice_right]
  rfl
/-- The list, its first k and its last k exchanged. -/
def swp (l : List Sd) (k : Nat) : List Sd := (List.range l.length).map fun m => if m < k ∨ l.length - 1 - m < k then sd l (l.length - 1 - m) else sd l m
theorem swp_len (l : List Sd) (k : Nat) : (swp l k).length = l.length := by simp [swp]
theorem swp_sd {l : List Sd} {k m : Nat} (hm : m < l.length) : sd (swp l k) m = if m < k ∨ l.length - 1 - m < k then sd l (l.length - 1 - m) else sd l m := by
  simp [swp, sd, hm]
theorem list_ext_sd {l m : List Sd} (h : l.length = m.length) (hs : ∀ i, i < l.length → sd l i = sd m i) : l = m := by
  refine List.ext_getElem h fun i h1 h2 => ?_
  have := hs i h1
  simpa [sd, h1, h2] using this
theorem swp_zero (l : List Sd) : swp l 0 = l := list_ext_sd (swp_len l 0) fun i hi => by
  rw [swp_len] at hi
  rw [swp_sd hi, if_neg (by omega)]
theorem sd_setL {l : List Sd} {i : Nat} (hi : i < l.length) (s : Sd) (k : Nat) : sd (l.set i s) k = if k = i then s else sd l k := by
  unfold sd
  rw [List.getD_eq_getElem?_getD, List.getD_eq_getElem?_getD]
  by_cases e : k = i
  · subst e; rw [if_pos rfl, List.getElem?_set_self hi]; rfl
  · rw [if_neg e, List.getElem?_set_ne (fun h => e h.symm)]
theorem swp_succ {l : List Sd} {k : Nat} (hk : k < l.length - 1 - k) : swp l (k + 1) = ((swp l k).set k (sd l (l.length - 1 - k))).set (l.length - 1 - k) (sd l k) := list_ext_sd (by rw [swp_len, List.length_set, List.length_set, swp_len]) fun i hi => by
  rw [swp_len] at hi
  rw [swp_sd hi, sd_setL (by rw [List.length_set, swp_len]; omega), sd_setL (by rw [swp_len]; omega), swp_sd hi]
  by_cases e1 : i = l.length - 1 - k
  · rw [if_pos e1, if_pos (by omega), e1, show l.length - 1 - (l.length - 1 - k) = k by omega]
  by_cases e2 : i = k
  · rw [if_neg e1, if_pos e2, if_pos (by omega), e2]
  · rw [if_neg e1, if_neg e2]
    by_cases e3 : i < k ∨ l.length - 1 - i < k
    · rw [if_pos (by omega), if_pos e3]
    · rw [if_neg (by omega), if_neg e3]
theorem swp_done {l : List Sd} {k : Nat} (hk : ¬ k < l.length - 1 - k) : swp l k = l.reverse := list_ext_sd (by rw [swp_len, List.length_reverse]) fun i hi => by
  rw [swp_len] at hi
  rw [swp_sd hi]
  have hr : sd l.reverse i = sd l (l.length - 1 - i) := by
    simp [sd, hi, List.getElem_reverse, show l.length - 1 - i < l.length by omega]
  rw [hr]
  by_cases e : i < k ∨ l.length - 1 - i < k
  · rw [if_pos e]
  · rw [if_neg e]; congr 1; omega
/-- A side of a row that is listed. -/
theorem row_side {W0 W : World} {bxs : List Bx} (hp : Hp W0 bxs W) (k : Nat) {g : Nat} {L : List Sd} {junk : List Value} (hk : nth bxs k = some ⟨g, 42, cellsOf L ++ junk, true, none⟩) {j : Nat} (hj : j < L.length) : RowAt W g (0 + j * 7) (sd L j).cells := by
  have h := RowAt.of_bx hp k hk rfl
  refine ⟨h.lt, fun m u hu => ?_⟩
  have hm : m < 7 := (List.getElem?_eq_some_iff.1 hu).1
  have h1 := cellsOf_get L j (sd L j) (sd_get hj) m hm
  rw [hu] at h1
  have := h.get (j * 7 + m) u (by
    show (cellsOf L ++ junk)[j * 7 + m]? = some u
    rw [List.getElem?_append_left (List.getElem?_eq_some_iff.1 h1).1]
    exact h1)
  rw [Nat.zero_add] at this ⊢
  exact this
set_option maxHeartbeats 4000000 in
theorem reverse_gives (W : World) (g cap : Nat) (junk : List Value) (l : List Sd) (h0 : 0 < l.length) (hn : l.length < 4611686018427387904) (hg : W.heap[g]? = some (.cells (cellsOf l ++ junk).toArray 42 (0, 0))) :
    Calls Tryz.prog 31 #[slv (some ⟨g, 0, none⟩) l.length cap] W fun e W' => ∃ x : Unit, e = .returned ((fun _ => .tuple #[]) x) ∧ True ∧ Near W W' g ((fun _ => g) x) ((fun _ => .cells (cellsOf l.reverse ++ junk).toArray 42 (0, 0)) x) := by
  have key : Calls Tryz.prog 31 [slv (some ⟨g, 0, none⟩) l.length cap].toArray W fun e W' => ∃ x : Unit, e = .returned ((fun _ => .tuple #[]) x) ∧ (fun _ => True) x ∧ Below (noHeap W).heap.size (noHeap W) W' ∧ NewBx (noHeap W) W' ((fun _ => [grpB (othersL W g), ⟨g, 42, cellsOf l.reverse ++ junk, true, none⟩]) x) := by
    refine calls_enterT (X := Unit) (val := fun _ => .tuple #[]) (Φ := fun _ => True) (nb := fun _ => [grpB (othersL W g), ⟨g, 42, cellsOf l.reverse ++ junk, true, none⟩]) (Hp.enterT (B := ⟨g, 42, cellsOf l ++ junk, true, none⟩) rfl hg) Tryz.func31 rfl rfl rfl ?_
    repeat (first | refine zA ?_ | refine zB ?_ | refine zC ?_ | refine zD ?_ | refine zE ?_ | refine zF ?_ | refine zG ?_ | refine zH ?_ | refine zI ?_ | refine zJ ?_ | refine zK ?_ | refine zL ?_ | refine zM rfl ?_ | refine zN ?_ | refine zO ?_ | refine zP ?_ | refine zQ ?_ | refine zR rfl ?_ | refine zS rfl ?_ | refine zT Tryz.mixed (by kernel_rfl) ?_)
    refine wl_pure Tryz.hT rfl rfl rfl ?_
    refine wl_pure Tryz.hT rfl rfl rfl ?_
    refine wl_pure Tryz.hT rfl rfl rfl ?_
    refine wl_upd 6 (.int .i64 ((l.length - 1 - 0 : Nat) : Int)) rfl (congrArg (Value.int .i64) (show w64 ((l.length : Nat) - 1) = _ by rw [w64_id (by omega) (by omega)]; omega)) ?_
    refine wl_pure Tryz.hT rfl rfl rfl ?_
    refine wl_pure Tryz.hT rfl rfl rfl ?_
    refine wl_nil ?_
    repeat (first | refine zA ?_ | refine zB ?_ | refine zC ?_ | refine zD ?_ | refine zE ?_ | refine zF ?_ | refine zG ?_ | refine zH ?_ | refine zI ?_ | refine zJ ?_ | refine zK ?_ | refine zL ?_ | refine zM rfl ?_ | refine zN ?_ | refine zO ?_ | refine zP ?_ | refine zQ ?_ | refine zR rfl ?_ | refine zS rfl ?_ | refine zT Tryz.mixed (by kernel_rfl) ?_)
    refine wc_loop (X := Nat) (fun k => [(0, slv (some ⟨g, 0, none⟩) l.length cap), (2, .int .i64 (k : Nat)), (3, .int .i64 ((l.length - 1 - k : Nat) : Int))]) (fun k => [grpB (othersL W g), ⟨g, 42, cellsOf (swp l k) ++ junk, true, none⟩])
      (fun k => 2 * k ≤ l.length) (fun k => l.length - k) 0 (Nat.zero_le _) ⟨rfl, rfl, rfl, trivial⟩ [] (by show _ = _ ++ []; rw [swp_zero]; rfl) ?_
    intro k hk
    repeat (first | refine zA ?_ | refine zB ?_ | refine zC ?_ | refine zD ?_ | refine zE ?_ | refine zF ?_ | refine zG ?_ | refine zH ?_ | refine zI ?_ | refine zJ ?_ | refine zK ?_ | refine zL ?_ | refine zM rfl ?_ | refine zN ?_ | refine zO ?_ | refine zP ?_ | refine zQ ?_ | refine zR rfl ?_ | refine zS rfl ?_ | refine zT Tryz.mixed (by kernel_rfl) ?_)
    refine wl_pure Tryz.hT rfl rfl rfl ?_
    refine wl_pure Tryz.hT rfl rfl rfl ?_
    refine wl_pure Tryz.hT rfl rfl rfl ?_
    refine wl_nil ?_
    repeat (first | refine zA ?_ | refine zB ?_ | refine zC ?_ | refine zD ?_ | refine zE ?_ | refine zF ?_ | refine zG ?_ | refine zH ?_ | refine zI ?_ | refine zJ ?_ | refine zK ?_ | refine zL ?_ | refine zM rfl ?_ | refine zN ?_ | refine zO ?_ | refine zP ?_ | refine zQ ?_ | refine zR rfl ?_ | refine zS rfl ?_ | refine zT Tryz.mixed (by kernel_rfl) ?_)
    refine wc_cond rfl (fun h => ?_) (fun h => ?_)
    rotate_left
    · have hd : ¬ k < l.length - 1 - k := by
        have h' : decide ((k : Int) < ((l.length - 1 - k : Nat) : Int)) = false := h
        rw [decide_eq_false_iff_not] at h'; omega
      rw [swp_done hd]
      repeat (first | refine zA ?_ | refine zB ?_ | refine zC ?_ | refine zD ?_ | refine zE ?_ | refine zF ?_ | refine zG ?_ | refine zH ?_ | refine zI ?_ | refine zJ ?_ | refine zK ?_ | refine zL ?_ | refine zM rfl ?_ | refine zN ?_ | refine zO ?_ | refine zP ?_ | refine zQ ?_ | refine zR rfl ?_ | refine zS rfl ?_ | refine zT Tryz.mixed (by kernel_rfl) ?_)
      refine ne_end0 (X := Unit) (val := fun _ => .tuple #[]) (Φ := fun _ => True) (nb := fun _ => [grpB (othersL W g), ⟨g, 42, cellsOf l.reverse ++ junk, true, none⟩]) (fn := Tryz.f31) Tryz.hT rfl () rfl trivial fun W1 hp => ?_
      exact (hp.pick (l := [grpB (othersL W g), ⟨g, 42, cellsOf l.reverse ++ junk, true, none⟩]) [0, 1] (by decide) rfl).own
    have hd : k < l.length - 1 - k := by
      have h' : decide ((k : Int) < ((l.length - 1 - k : Nat) : Int)) = true := h
      rw [decide_eq_true_iff] at h'; omega
    clear h
    have s1 : sd (swp l k) (l.length - 1 - k) = sd l (l.length - 1 - k) := by rw [swp_sd (by omega), if_neg (by omega)]
    have s2 : sd (swp l k) k = sd l k := by rw [swp_sd (by omega), if_neg (by omega)]
    repeat (first | refine zC ?_ | refine zD ?_ | refine zE ?_ | refine zF ?_ | refine zG ?_ | refine zH ?_ | refine zI ?_ | refine zJ ?_ | refine zK ?_ | refine zL ?_ | refine zM rfl ?_ | refine zN ?_ | refine zO ?_ | refine zP ?_ | refine zQ ?_ | refine zR rfl ?_ | refine zS rfl ?_)
    refine wc_seq ?_
    refine wc_block ?_
    repeat refine wc_seq ?_
    refine wc_lateY (X := Unit) [true, true, false, false, true, true, true, true, true, true, true, true, true, false, false, false] (fun _ => [(0, slv (some ⟨g, 0, none⟩) l.length cap), (2, .int .i64 (k : Nat)), (3, .int .i64 ((l.length - 1 - k : Nat) : Int))]) (fun _ => [grpB (othersL W g), ⟨g, 42, cellsOf (swp l (k + 1)) ++ junk, true, none⟩])
      5 [grpB (othersL W g), ⟨g, 42, cellsOf (swp l k) ++ junk, true, none⟩] Tryz.mixed (by kernel_rfl) ?_ ?_
    · refine wq_pure Tryz.hT rfl rfl rfl ?_
      refine wq_pure Tryz.hT rfl rfl rfl ?_
      refine wq_pure Tryz.hT rfl rfl rfl ?_
      refine wq_pure Tryz.hT rfl rfl rfl ?_
      (first | refine wl_indexAddr Tryz.hT rfl rfl rfl rfl rfl rfl rfl (by omega) (by omega) ?_ | refine wq_indexAddr Tryz.hT rfl rfl rfl rfl rfl rfl rfl (by omega) (by omega) ?_)
      (first | refine wl_load rfl rfl rfl rfl (fun W hp => RowAt.load 0 Tryz.hT rfl ((fun W1 hp => show RowAt W1 g (0 + (l.length - 1 - k) * 7) (sd l (l.length - 1 - k)).cells from by rw [← s1]; exact row_side hp 1 rfl (by rw [swp_len]; omega)) W hp) rfl) ?_ | refine wl_load rfl rfl rfl rfl (fun W hp => RowAt.load 1 Tryz.hT rfl ((fun W1 hp => show RowAt W1 g (0 + (l.length - 1 - k) * 7) (sd l (l.length - 1 - k)).cells from by rw [← s1]; exact row_side hp 1 rfl (by rw [swp_len]; omega)) W hp) rfl) ?_ | refine wl_load rfl rfl rfl rfl (fun W hp => RowAt.load 2 Tryz.hT rfl ((fun W1 hp => show RowAt W1 g (0 + (l.length - 1 - k) * 7) (sd l (l.length - 1 - k)).cells from by rw [← s1]; exact row_side hp 1 rfl (by rw [swp_len]; omega)) W hp) rfl) ?_ | refine wl_load rfl rfl rfl rfl (fun W hp => RowAt.load 3 Tryz.hT rfl ((fun W1 hp => show RowAt W1 g (0 + (l.length - 1 - k) * 7) (sd l (l.length - 1 - k)).cells from by rw [← s1]; exact row_side hp 1 rfl (by rw [swp_len]; omega)) W hp) rfl) ?_ | refine wl_load rfl rfl rfl rfl (fun W hp => RowAt.load 4 Tryz.hT rfl ((fun W1 hp => show RowAt W1 g (0 + (l.length - 1 - k) * 7) (sd l (l.length - 1 - k)).cells from by rw [← s1]; exact row_side hp 1 rfl (by rw [swp_len]; omega)) W hp) rfl) ?_ | refine wl_load rfl rfl rfl rfl (fun W hp => RowAt.load 5 Tryz.hT rfl ((fun W1 hp => show RowAt W1 g (0 + (l.length - 1 - k) * 7) (sd l (l.length - 1 - k)).cells from by rw [← s1]; exact row_side hp 1 rfl (by rw [swp_len]; omega)) W hp) rfl) ?_ | refine wl_load rfl rfl rfl rfl (fun W hp => RowAt.load 6 Tryz.hT rfl ((fun W1 hp => show RowAt W1 g (0 + (l.length - 1 - k) * 7) (sd l (l.length - 1 - k)).cells from by rw [← s1]; exact row_side hp 1 rfl (by rw [swp_len]; omega)) W hp) rfl) ?_ | refine wl_load rfl rfl rfl rfl (fun W hp => RowAt.load 7 Tryz.hT rfl ((fun W1 hp => show RowAt W1 g (0 + (l.length - 1 - k) * 7) (sd l (l.length - 1 - k)).cells from by rw [← s1]; exact row_side hp 1 rfl (by rw [swp_len]; omega)) W hp) rfl) ?_ | refine wq_load rfl rfl rfl rfl (fun W hp => RowAt.load 0 Tryz.hT rfl ((fun W1 hp => show RowAt W1 g (0 + (l.length - 1 - k) * 7) (sd l (l.length - 1 - k)).cells from by rw [← s1]; exact row_side hp 1 rfl (by rw [swp_len]; omega)) W hp) rfl) ?_ | refine wq_load rfl rfl rfl rfl (fun W hp => RowAt.load 1 Tryz.hT rfl ((fun W1 hp => show RowAt W1 g (0 + (l.length - 1 - k) * 7) (sd l (l.length - 1 - k)).cells from by rw [← s1]; exact row_side hp 1 rfl (by rw [swp_len]; omega)) W hp) rfl) ?_ | refine wq_load rfl rfl rfl rfl (fun W hp => RowAt.load 2 Tryz.hT rfl ((fun W1 hp => show RowAt W1 g (0 + (l.length - 1 - k) * 7) (sd l (l.length - 1 - k)).cells from by rw [← s1]; exact row_side hp 1 rfl (by rw [swp_len]; omega)) W hp) rfl) ?_ | refine wq_load rfl rfl rfl rfl (fun W hp => RowAt.load 3 Tryz.hT rfl ((fun W1 hp => show RowAt W1 g (0 + (l.length - 1 - k) * 7) (sd l (l.length - 1 - k)).cells from by rw [← s1]; exact row_side hp 1 rfl (by rw [swp_len]; omega)) W hp) rfl) ?_ | refine wq_load rfl rfl rfl rfl (fun W hp => RowAt.load 4 Tryz.hT rfl ((fun W1 hp => show RowAt W1 g (0 + (l.length - 1 - k) * 7) (sd l (l.length - 1 - k)).cells from by rw [← s1]; exact row_side hp 1 rfl (by rw [swp_len]; omega)) W hp) rfl) ?_ | refine wq_load rfl rfl rfl rfl (fun W hp => RowAt.load 5 Tryz.hT rfl ((fun W1 hp => show RowAt W1 g (0 + (l.length - 1 - k) * 7) (sd l (l.length - 1 - k)).cells from by rw [← s1]; exact row_side hp 1 rfl (by rw [swp_len]; omega)) W hp) rfl) ?_ | refine wq_load rfl rfl rfl rfl (fun W hp => RowAt.load 6 Tryz.hT rfl ((fun W1 hp => show RowAt W1 g (0 + (l.length - 1 - k) * 7) (sd l (l.length - 1 - k)).cells from by rw [← s1]; exact row_side hp 1 rfl (by rw [swp_len]; omega)) W hp) rfl) ?_ | refine wq_load rfl rfl rfl rfl (fun W hp => RowAt.load 7 Tryz.hT rfl ((fun W1 hp => show RowAt W1 g (0 + (l.length - 1 - k) * 7) (sd l (l.length - 1 - k)).cells from by rw [← s1]; exact row_side hp 1 rfl (by rw [swp_len]; omega)) W hp) rfl) ?_)
      refine wq_pure Tryz.hT rfl rfl rfl ?_
      refine wq_pure Tryz.hT rfl rfl rfl ?_
      (first | refine wl_indexAddr Tryz.hT rfl rfl rfl rfl rfl rfl rfl (by omega) (by omega) ?_ | refine wq_indexAddr Tryz.hT rfl rfl rfl rfl rfl rfl rfl (by omega) (by omega) ?_)
      (first | refine wl_load rfl rfl rfl rfl (fun W hp => RowAt.load 0 Tryz.hT rfl ((fun W1 hp => show RowAt W1 g (0 + k * 7) (sd l k).cells from by rw [← s2]; exact row_side hp 1 rfl (by rw [swp_len]; omega)) W hp) rfl) ?_ | refine wl_load rfl rfl rfl rfl (fun W hp => RowAt.load 1 Tryz.hT rfl ((fun W1 hp => show RowAt W1 g (0 + k * 7) (sd l k).cells from by rw [← s2]; exact row_side hp 1 rfl (by rw [swp_len]; omega)) W hp) rfl) ?_ | refine wl_load rfl rfl rfl rfl (fun W hp => RowAt.load 2 Tryz.hT rfl ((fun W1 hp => show RowAt W1 g (0 + k * 7) (sd l k).cells from by rw [← s2]; exact row_side hp 1 rfl (by rw [swp_len]; omega)) W hp) rfl) ?_ | refine wl_load rfl rfl rfl rfl (fun W hp => RowAt.load 3 Tryz.hT rfl ((fun W1 hp => show RowAt W1 g (0 + k * 7) (sd l k).cells from by rw [← s2]; exact row_side hp 1 rfl (by rw [swp_len]; omega)) W hp) rfl) ?_ | refine wl_load rfl rfl rfl rfl (fun W hp => RowAt.load 4 Tryz.hT rfl ((fun W1 hp => show RowAt W1 g (0 + k * 7) (sd l k).cells from by rw [← s2]; exact row_side hp 1 rfl (by rw [swp_len]; omega)) W hp) rfl) ?_ | refine wl_load rfl rfl rfl rfl (fun W hp => RowAt.load 5 Tryz.hT rfl ((fun W1 hp => show RowAt W1 g (0 + k * 7) (sd l k).cells from by rw [← s2]; exact row_side hp 1 rfl (by rw [swp_len]; omega)) W hp) rfl) ?_ | refine wl_load rfl rfl rfl rfl (fun W hp => RowAt.load 6 Tryz.hT rfl ((fun W1 hp => show RowAt W1 g (0 + k * 7) (sd l k).cells from by rw [← s2]; exact row_side hp 1 rfl (by rw [swp_len]; omega)) W hp) rfl) ?_ | refine wl_load rfl rfl rfl rfl (fun W hp => RowAt.load 7 Tryz.hT rfl ((fun W1 hp => show RowAt W1 g (0 + k * 7) (sd l k).cells from by rw [← s2]; exact row_side hp 1 rfl (by rw [swp_len]; omega)) W hp) rfl) ?_ | refine wq_load rfl rfl rfl rfl (fun W hp => RowAt.load 0 Tryz.hT rfl ((fun W1 hp => show RowAt W1 g (0 + k * 7) (sd l k).cells from by rw [← s2]; exact row_side hp 1 rfl (by rw [swp_len]; omega)) W hp) rfl) ?_ | refine wq_load rfl rfl rfl rfl (fun W hp => RowAt.load 1 Tryz.hT rfl ((fun W1 hp => show RowAt W1 g (0 + k * 7) (sd l k).cells from by rw [← s2]; exact row_side hp 1 rfl (by rw [swp_len]; omega)) W hp) rfl) ?_ | refine wq_load rfl rfl rfl rfl (fun W hp => RowAt.load 2 Tryz.hT rfl ((fun W1 hp => show RowAt W1 g (0 + k * 7) (sd l k).cells from by rw [← s2]; exact row_side hp 1 rfl (by rw [swp_len]; omega)) W hp) rfl) ?_ | refine wq_load rfl rfl rfl rfl (fun W hp => RowAt.load 3 Tryz.hT rfl ((fun W1 hp => show RowAt W1 g (0 + k * 7) (sd l k).cells from by rw [← s2]; exact row_side hp 1 rfl (by rw [swp_len]; omega)) W hp) rfl) ?_ | refine wq_load rfl rfl rfl rfl (fun W hp => RowAt.load 4 Tryz.hT rfl ((fun W1 hp => show RowAt W1 g (0 + k * 7) (sd l k).cells from by rw [← s2]; exact row_side hp 1 rfl (by rw [swp_len]; omega)) W hp) rfl) ?_ | refine wq_load rfl rfl rfl rfl (fun W hp => RowAt.load 5 Tryz.hT rfl ((fun W1 hp => show RowAt W1 g (0 + k * 7) (sd l k).cells from by rw [← s2]; exact row_side hp 1 rfl (by rw [swp_len]; omega)) W hp) rfl) ?_ | refine wq_load rfl rfl rfl rfl (fun W hp => RowAt.load 6 Tryz.hT rfl ((fun W1 hp => show RowAt W1 g (0 + k * 7) (sd l k).cells from by rw [← s2]; exact row_side hp 1 rfl (by rw [swp_len]; omega)) W hp) rfl) ?_ | refine wq_load rfl rfl rfl rfl (fun W hp => RowAt.load 7 Tryz.hT rfl ((fun W1 hp => show RowAt W1 g (0 + k * 7) (sd l k).cells from by rw [← s2]; exact row_side hp 1 rfl (by rw [swp_len]; omega)) W hp) rfl) ?_)
      (first | refine wl_indexAddr Tryz.hT rfl rfl rfl rfl rfl rfl rfl (by omega) (by omega) ?_ | refine wq_indexAddr Tryz.hT rfl rfl rfl rfl rfl rfl rfl (by omega) (by omega) ?_)
      refine wq_wt ?_
      have h1 : splice (cellsOf (swp l k) ++ junk) (0 + k * 7) (sd l (l.length - 1 - k)).val.cells.toList = cellsOf ((swp l k).set k (sd l (l.length - 1 - k))) ++ junk := by
        rw [Nat.zero_add]; exact set_side _ (by rw [swp_len]; omega)
      have h2 : splice (cellsOf ((swp l k).set k (sd l (l.length - 1 - k))) ++ junk) (0 + (l.length - 1 - k) * 7) (sd l k).val.cells.toList = cellsOf (swp l (k + 1)) ++ junk := by
        rw [Nat.zero_add, swp_succ hd]; exact set_side _ (by rw [List.length_set, swp_len]; omega)
      first | refine wt_step rfl rfl (by ((repeat (first | refine Weak.same ?_ | refine Weak.off rfl ?_)); exact trivial)) ?_ | refine wt_stepF rfl rfl (by kernel_rfl) ?_
      refine RS.cons ?_ (RS.cons ?_ (RS.cons ?_ (RS.nil)))
      · refine wl_pure Tryz.hT rfl rfl rfl ?_
        refine wl_nil ?_
        refine ne_wt ?_
        first | refine wt_step rfl rfl (by ((repeat (first | refine Weak.same ?_ | refine Weak.off rfl ?_)); exact trivial)) ?_ | refine wt_stepF rfl rfl (by kernel_rfl) ?_
        refine RS.cons ?_ (RS.cons ?_ (RS.nil))
        · refine wl_pure Tryz.hT rfl rfl rfl ?_
          refine wl_nil ?_
          refine ne_wt ?_
          first | refine wt_step rfl rfl (by ((repeat (first | refine Weak.same ?_ | refine Weak.off rfl ?_)); exact trivial)) ?_ | refine wt_stepF rfl rfl (by kernel_rfl) ?_
          refine RS.cons ?_ (RS.nil)
          refine wl_storeTo 1 _ Tryz.hT rfl rfl rfl rfl rfl rfl rfl rfl rfl rfl (by show 0 + k * 7 + 7 ≤ (cellsOf (swp l k) ++ junk).length; rw [List.length_append, cellsOf_length, swp_len]; omega) h1 ?_
          refine wl_nil ?_
          refine ne_wt ?_
          first | refine wt_step rfl rfl (by ((repeat (first | refine Weak.same ?_ | refine Weak.off rfl ?_)); exact trivial)) ?_ | refine wt_stepF rfl rfl (by kernel_rfl) ?_
          refine RS.cons ?_ (RS.nil)
          (first | refine wl_indexAddr Tryz.hT rfl rfl rfl rfl rfl rfl rfl (by omega) (by omega) ?_ | refine wq_indexAddr Tryz.hT rfl rfl rfl rfl rfl rfl rfl (by omega) (by omega) ?_)
          refine wl_nil ?_
          refine ne_wt ?_
          first | refine wt_step rfl rfl (by ((repeat (first | refine Weak.same ?_ | refine Weak.off rfl ?_)); exact trivial)) ?_ | refine wt_stepF rfl rfl (by kernel_rfl) ?_
          refine RS.cons ?_ (RS.nil)
          refine wl_storeTo 1 _ Tryz.hT rfl rfl rfl rfl rfl rfl rfl rfl rfl rfl (by show 0 + (l.length - 1 - k) * 7 + 7 ≤ (cellsOf ((swp l k).set k (sd l (l.length - 1 - k))) ++ junk).length; rw [List.length_append, cellsOf_length, List.length_set, swp_len]; omega) h2 ?_
          refine wl_nil ?_
          refine ne_wt ?_
          first | refine wt_done rfl (by ((repeat (first | refine Weak.same ?_ | refine Weak.off rfl ?_)); exact trivial)) ?_ | refine wt_doneF rfl (by kernel_rfl) ?_
          exact ne_late () ⟨rfl, rfl, rfl, trivial⟩ [0, 1] (by decide) rfl
        · refine wl_storeTo 1 _ Tryz.hT rfl rfl rfl rfl rfl rfl rfl rfl rfl rfl (by show 0 + k * 7 + 7 ≤ (cellsOf (swp l k) ++ junk).length; rw [List.length_append, cellsOf_length, swp_len]; omega) h1 ?_
          refine wl_nil ?_
          refine ne_wt ?_
          first | refine wt_step rfl rfl (by ((repeat (first | refine Weak.same ?_ | refine Weak.off rfl ?_)); exact trivial)) ?_ | refine wt_stepF rfl rfl (by kernel_rfl) ?_
          refine RS.cons ?_ (RS.nil)
          refine wl_pure Tryz.hT rfl rfl rfl ?_
          refine wl_nil ?_
          refine ne_wt ?_
          first | refine wt_step rfl rfl (by ((repeat (first | refine Weak.same ?_ | refine Weak.off rfl ?_)); exact trivial)) ?_ | refine wt_stepF rfl rfl (by kernel_rfl) ?_
          refine RS.cons ?_ (RS.nil)
          (first | refine wl_indexAddr Tryz.hT rfl rfl rfl rfl rfl rfl rfl (by omega) (by omega) ?_ | refine wq_indexAddr Tryz.hT rfl rfl rfl rfl rfl rfl rfl (by omega) (by omega) ?_)
          refine wl_nil ?_
          refine ne_wt ?_
          first | refine wt_step rfl rfl (by ((repeat (first | refine Weak.same ?_ | refine Weak.off rfl ?_)); exact trivial)) ?_ | refine wt_stepF rfl rfl (by kernel_rfl) ?_
          refine RS.cons ?_ (RS.nil)
          refine wl_storeTo 1 _ Tryz.hT rfl rfl rfl rfl rfl rfl rfl rfl rfl rfl (by show 0 + (l.length - 1 - k) * 7 + 7 ≤ (cellsOf ((swp l k).set k (sd l (l.length - 1 - k))) ++ junk).length; rw [List.length_append, cellsOf_length, List.length_set, swp_len]; omega) h2 ?_
          refine wl_nil ?_
          refine ne_wt ?_
          first | refine wt_done rfl (by ((repeat (first | refine Weak.same ?_ | refine Weak.off rfl ?_)); exact trivial)) ?_ | refine wt_doneF rfl (by kernel_rfl) ?_
          exact ne_late () ⟨rfl, rfl, rfl, trivial⟩ [0, 1] (by decide) rfl
      · refine wl_pure Tryz.hT rfl rfl rfl ?_
        refine wl_nil ?_
        refine ne_wt ?_
        first | refine wt_step rfl rfl (by ((repeat (first | refine Weak.same ?_ | refine Weak.off rfl ?_)); exact trivial)) ?_ | refine wt_stepF rfl rfl (by kernel_rfl) ?_
        refine RS.cons ?_ (RS.cons ?_ (RS.nil))
        · refine wl_pure Tryz.hT rfl rfl rfl ?_
          refine wl_nil ?_
          refine ne_wt ?_
          first | refine wt_step rfl rfl (by ((repeat (first | refine Weak.same ?_ | refine Weak.off rfl ?_)); exact trivial)) ?_ | refine wt_stepF rfl rfl (by kernel_rfl) ?_
          refine RS.cons ?_ (RS.nil)
          refine wl_storeTo 1 _ Tryz.hT rfl rfl rfl rfl rfl rfl rfl rfl rfl rfl (by show 0 + k * 7 + 7 ≤ (cellsOf (swp l k) ++ junk).length; rw [List.length_append, cellsOf_length, swp_len]; omega) h1 ?_
          refine wl_nil ?_
          refine ne_wt ?_
          first | refine wt_step rfl rfl (by ((repeat (first | refine Weak.same ?_ | refine Weak.off rfl ?_)); exact trivial)) ?_ | refine wt_stepF rfl rfl (by kernel_rfl) ?_
          refine RS.cons ?_ (RS.nil)
          (first | refine wl_indexAddr Tryz.hT rfl rfl rfl rfl rfl rfl rfl (by omega) (by omega) ?_ | refine wq_indexAddr Tryz.hT rfl rfl rfl rfl rfl rfl rfl (by omega) (by omega) ?_)
          refine wl_nil ?_
          refine ne_wt ?_
          first | refine wt_step rfl rfl (by ((repeat (first | refine Weak.same ?_ | refine Weak.off rfl ?_)); exact trivial)) ?_ | refine wt_stepF rfl rfl (by kernel_rfl) ?_
          refine RS.cons ?_ (RS.nil)
          refine wl_storeTo 1 _ Tryz.hT rfl rfl rfl rfl rfl rfl rfl rfl rfl rfl (by show 0 + (l.length - 1 - k) * 7 + 7 ≤ (cellsOf ((swp l k).set k (sd l (l.length - 1 - k))) ++ junk).length; rw [List.length_append, cellsOf_length, List.length_set, swp_len]; omega) h2 ?_
          refine wl_nil ?_
          refine ne_wt ?_
          first | refine wt_done rfl (by ((repeat (first | refine Weak.same ?_ | refine Weak.off rfl ?_)); exact trivial)) ?_ | refine wt_doneF rfl (by kernel_rfl) ?_
          exact ne_late () ⟨rfl, rfl, rfl, trivial⟩ [0, 1] (by decide) rfl
        · refine wl_storeTo 1 _ Tryz.hT rfl rfl rfl rfl rfl rfl rfl rfl rfl rfl (by show 0 + k * 7 + 7 ≤ (cellsOf (swp l k) ++ junk).length; rw [List.length_append, cellsOf_length, swp_len]; omega) h1 ?_
          refine wl_nil ?_
          refine ne_wt ?_
          first | refine wt_step rfl rfl (by ((repeat (first | refine Weak.same ?_ | refine Weak.off rfl ?_)); exact trivial)) ?_ | refine wt_stepF rfl rfl (by kernel_rfl) ?_
          refine RS.cons ?_ (RS.nil)
          refine wl_pure Tryz.hT rfl rfl rfl ?_
          refine wl_nil ?_
          refine ne_wt ?_
          first | refine wt_step rfl rfl (by ((repeat (first | refine Weak.same ?_ | refine Weak.off rfl ?_)); exact trivial)) ?_ | refine wt_stepF rfl rfl (by kernel_rfl) ?_
          refine RS.cons ?_ (RS.nil)
          (first | refine wl_indexAddr Tryz.hT rfl rfl rfl rfl rfl rfl rfl (by omega) (by omega) ?_ | refine wq_indexAddr Tryz.hT rfl rfl rfl rfl rfl rfl rfl (by omega) (by omega) ?_)
          refine wl_nil ?_
          refine ne_wt ?_
          first | refine wt_step rfl rfl (by ((repeat (first | refine Weak.same ?_ | refine Weak.off rfl ?_)); exact trivial)) ?_ | refine wt_stepF rfl rfl (by kernel_rfl) ?_
          refine RS.cons ?_ (RS.nil)
          refine wl_storeTo 1 _ Tryz.hT rfl rfl rfl rfl rfl rfl rfl rfl rfl rfl (by show 0 + (l.length - 1 - k) * 7 + 7 ≤ (cellsOf ((swp l k).set k (sd l (l.length - 1 - k))) ++ junk).length; rw [List.length_append, cellsOf_length, List.length_set, swp_len]; omega) h2 ?_
          refine wl_nil ?_
          refine ne_wt ?_
          first | refine wt_done rfl (by ((repeat (first | refine Weak.same ?_ | refine Weak.off rfl ?_)); exact trivial)) ?_ | refine wt_doneF rfl (by kernel_rfl) ?_
          exact ne_late () ⟨rfl, rfl, rfl, trivial⟩ [0, 1] (by decide) rfl
      · refine wl_storeTo 1 _ Tryz.hT rfl rfl rfl rfl rfl rfl rfl rfl rfl rfl (by show 0 + k * 7 + 7 ≤ (cellsOf (swp l k) ++ junk).length; rw [List.length_append, cellsOf_length, swp_len]; omega) h1 ?_
        refine wl_nil ?_
        refine ne_wt ?_
        first | refine wt_step rfl rfl (by ((repeat (first | refine Weak.same ?_ | refine Weak.off rfl ?_)); exact trivial)) ?_ | refine wt_stepF rfl rfl (by kernel_rfl) ?_
        refine RS.cons ?_ (RS.cons ?_ (RS.nil))
        · refine wl_pure Tryz.hT rfl rfl rfl ?_
          refine wl_nil ?_
          refine ne_wt ?_
          first | refine wt_step rfl rfl (by ((repeat (first | refine Weak.same ?_ | refine Weak.off rfl ?_)); exact trivial)) ?_ | refine wt_stepF rfl rfl (by kernel_rfl) ?_
          refine RS.cons ?_ (RS.nil)
          refine wl_pure Tryz.hT rfl rfl rfl ?_
          refine wl_nil ?_
          refine ne_wt ?_
          first | refine wt_step rfl rfl (by ((repeat (first | refine Weak.same ?_ | refine Weak.off rfl ?_)); exact trivial)) ?_ | refine wt_stepF rfl rfl (by kernel_rfl) ?_
          refine RS.cons ?_ (RS.nil)
          (first | refine wl_indexAddr Tryz.hT rfl rfl rfl rfl rfl rfl rfl (by omega) (by omega) ?_ | refine wq_indexAddr Tryz.hT rfl rfl rfl rfl rfl rfl rfl (by omega) (by omega) ?_)
          refine wl_nil ?_
          refine ne_wt ?_
          first | refine wt_step rfl rfl (by ((repeat (first | refine Weak.same ?_ | refine Weak.off rfl ?_)); exact trivial)) ?_ | refine wt_stepF rfl rfl (by kernel_rfl) ?_
          refine RS.cons ?_ (RS.nil)
          refine wl_storeTo 1 _ Tryz.hT rfl rfl rfl rfl rfl rfl rfl rfl rfl rfl (by show 0 + (l.length - 1 - k) * 7 + 7 ≤ (cellsOf ((swp l k).set k (sd l (l.length - 1 - k))) ++ junk).length; rw [List.length_append, cellsOf_length, List.length_set, swp_len]; omega) h2 ?_
          refine wl_nil ?_
          refine ne_wt ?_
          first | refine wt_done rfl (by ((repeat (first | refine Weak.same ?_ | refine Weak.off rfl ?_)); exact trivial)) ?_ | refine wt_doneF rfl (by kernel_rfl) ?_
          exact ne_late () ⟨rfl, rfl, rfl, trivial⟩ [0, 1] (by decide) rfl
        · refine wl_pure Tryz.hT rfl rfl rfl ?_
          refine wl_nil ?_
          refine ne_wt ?_
          first | refine wt_step rfl rfl (by ((repeat (first | refine Weak.same ?_ | refine Weak.off rfl ?_)); exact trivial)) ?_ | refine wt_stepF rfl rfl (by kernel_rfl) ?_
          refine RS.cons ?_ (RS.nil)
          refine wl_pure Tryz.hT rfl rfl rfl ?_
          refine wl_nil ?_
          refine ne_wt ?_
          first | refine wt_step rfl rfl (by ((repeat (first | refine Weak.same ?_ | refine Weak.off rfl ?_)); exact trivial)) ?_ | refine wt_stepF rfl rfl (by kernel_rfl) ?_
          refine RS.cons ?_ (RS.nil)
          (first | refine wl_indexAddr Tryz.hT rfl rfl rfl rfl rfl rfl rfl (by omega) (by omega) ?_ | refine wq_indexAddr Tryz.hT rfl rfl rfl rfl rfl rfl rfl (by omega) (by omega) ?_)
          refine wl_nil ?_
          refine ne_wt ?_
          first | refine wt_step rfl rfl (by ((repeat (first | refine Weak.same ?_ | refine Weak.off rfl ?_)); exact trivial)) ?_ | refine wt_stepF rfl rfl (by kernel_rfl) ?_
          refine RS.cons ?_ (RS.nil)
          refine wl_storeTo 1 _ Tryz.hT rfl rfl rfl rfl rfl rfl rfl rfl rfl rfl (by show 0 + (l.length - 1 - k) * 7 + 7 ≤ (cellsOf ((swp l k).set k (sd l (l.length - 1 - k))) ++ junk).length; rw [List.length_append, cellsOf_length, List.length_set, swp_len]; omega) h2 ?_
          refine wl_nil ?_
          refine ne_wt ?_
          first | refine wt_done rfl (by ((repeat (first | refine Weak.same ?_ | refine Weak.off rfl ?_)); exact trivial)) ?_ | refine wt_doneF rfl (by kernel_rfl) ?_
          exact ne_late () ⟨rfl, rfl, rfl, trivial⟩ [0, 1] (by decide) rfl
    intro _
    repeat (first | refine zA ?_ | refine zB ?_ | refine zC ?_ | refine zD ?_ | refine zE ?_ | refine zF ?_ | refine zG ?_ | refine zH ?_ | refine zI ?_ | refine zJ ?_ | refine zK ?_ | refine zL ?_ | refine zM rfl ?_ | refine zN ?_ | refine zO ?_ | refine zP ?_ | refine zQ ?_ | refine zR rfl ?_ | refine zS rfl ?_ | refine zT Tryz.mixed (by kernel_rfl) ?_)
    refine wl_pure Tryz.hT rfl rfl rfl ?_
    refine wl_pure Tryz.hT rfl rfl rfl ?_
    refine wl_pure Tryz.hT rfl rfl rfl ?_
    refine wl_pure Tryz.hT rfl rfl rfl ?_
    refine wl_upd 13 (.int .i64 ((l.length - 1 - (k + 1) : Nat) : Int)) rfl (congrArg (Value.int .i64) (show w64 (((l.length - 1 - k : Nat) : Int) - 1) = _ by rw [w64_id (by omega) (by omega)]; omega)) ?_
    refine wl_pure Tryz.hT rfl rfl rfl ?_
    refine wl_pure Tryz.hT rfl rfl rfl ?_
    refine wl_nil ?_
    repeat (first | refine zA ?_ | refine zB ?_ | refine zC ?_ | refine zD ?_ | refine zE ?_ | refine zF ?_ | refine zG ?_ | refine zH ?_ | refine zI ?_ | refine zJ ?_ | refine zK ?_ | refine zL ?_ | refine zM rfl ?_ | refine zN ?_ | refine zO ?_ | refine zP ?_ | refine zQ ?_ | refine zR rfl ?_ | refine zS rfl ?_ | refine zT Tryz.mixed (by kernel_rfl) ?_)
    exact ne_loop (k + 1) (by show 2 * (k + 1) ≤ l.length; omega) (by omega) ⟨rfl, congrArg (fun z => some (Value.int .i64 z)) (wrap_id (x := (k : Int) + 1) (by omega) (by omega)), rfl, trivial⟩ [] rfl
  refine key.mono ?_
  rintro e W' ⟨x, he, _, hb, hn'⟩
  exact ⟨x, he, trivial, near_of hg rfl hb hn'⟩
end Go.Proofs.YtnpfkmbcejgnjaaGreatDoor
