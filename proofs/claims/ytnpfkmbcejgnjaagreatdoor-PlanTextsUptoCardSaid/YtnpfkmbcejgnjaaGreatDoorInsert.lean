/-
  slices.Insert of one side into a row, before its end.
-/
import Derived.Test.YtnpfkmbcejgnjaaGreatDoorReverse
import Derived.Lib.Overlaps
namespace Go.Proofs.YtnpfkmbcejgnjaaGreatDoor
open Go Go.RowKit Go.Am
set_option maxRecDepth 10000
-- BOXES 2
abbrev insL (l : List Sd) (i : Nat) (s : Sd) : List Sd := l.take i ++ s :: l.drop i
theorem overlaps_run {W : World} {g gs off n m c1 c2 : Nat} {cs xs : List Value} (h1 : W.heap[gs]? = some (.cells cs.toArray 42 (0, 0))) (h2 : W.heap[g]? = some (.cells xs.toArray 42 (0, 0))) (hx : 0 < xs.length) (hne : gs ≠ g) :
    (callFunc 75 #[slv (some ⟨gs, 0, none⟩) n c1, slv (some ⟨g, off, none⟩) m c2]).run Tryz.prog W = .ok (.value (.bool false)) W := by
  rw [run_callFunc_extern Tryz.func75 (by kernel_rfl) (by kernel_rfl) (by kernel_rfl) (e := Extern.SlicesOverlaps.overlaps #[27, 27] #[4]) (by kernel_rfl),
    Lib.run_overlaps_apart W 27 4 42 (by kernel_rfl) 7 (fun W => by kernel_rfl) ⟨gs, 0, none⟩ ⟨g, off, none⟩ n c1 m c2 hne 42 42 cs.length xs.length (by simp [World.shape?, h1]) (by simp [World.shape?, h2]) (by omega) (by simp [World.frozen?, h1]) (by simp [World.frozen?, h1])]
  rfl
theorem cells_take {l : List Sd} {junk : List Value} (i : Nat) (j : Nat) {u : Value} (h : (cellsOf (l.take i))[j]? = some u) : (cellsOf l ++ junk)[j]? = some u := by
  have e : cellsOf l = cellsOf (l.take i) ++ cellsOf (l.drop i) := by rw [← cellsOf_append, List.take_append_drop]
  have hj := (List.getElem?_eq_some_iff.1 h).1
  rw [e, List.append_assoc, List.getElem?_append_left hj]; exact h
theorem cells_drop {l : List Sd} {junk : List Value} (i : Nat) (hi : i ≤ l.length) (j : Nat) {u : Value} (h : (cellsOf (l.drop i))[j]? = some u) : (cellsOf l ++ junk)[i * 7 + j]? = some u := by
  have e : cellsOf l = cellsOf (l.take i) ++ cellsOf (l.drop i) := by rw [← cellsOf_append, List.take_append_drop]
  have hj := (List.getElem?_eq_some_iff.1 h).1
  have hl : (cellsOf (l.take i)).length = i * 7 := by rw [cellsOf_length, List.length_take, Nat.min_eq_left hi]
  rw [e, List.append_assoc, List.getElem?_append_right (by omega), hl, Nat.add_sub_cancel_left, List.getElem?_append_left hj]; exact h
theorem allOne_cells : ∀ l : List Sd, allOne (cellsOf l) = true
  | [] => rfl
  | s :: l => by
    show allOne (s.cells ++ cellsOf l) = true
    exact allOne_cells l
abbrev zSd : List Value := [.int .i64 0, .int .i64 0, .int .i64 0, .int .i64 0, .bool false, .int .i64 0, .int .i64 0]
set_option maxHeartbeats 4000000 in
theorem insert_gives (W : World) (g cap gs cs i : Nat) (junk : List Value) (l : List Sd) (s : Sd) (hi : i < l.length) (hn : l.length < 1099511627776) (hV : (⟨some g, cap, junk⟩ : Vec).OK 7 l.length (cellsOf l)) (hg : W.heap[g]? = some (.cells (cellsOf l ++ junk).toArray 42 (0, 0)))
    (hs : W.heap[gs]? = some (.cells s.cells.toArray 42 (0, 0))) (hne : gs ≠ g) :
    Calls Tryz.prog 32 #[slv (some ⟨g, 0, none⟩) l.length cap, .int .i64 (i : Nat), slv (some ⟨gs, 0, none⟩) 1 cs] W fun e W' => ∃ x : Nat × Nat × List Value, e = .returned ((fun x : Nat × Nat × List Value => slv (some ⟨x.1, 0, none⟩) (l.length + 1) x.2.1) x) ∧
      (fun x : Nat × Nat × List Value => (⟨some x.1, x.2.1, x.2.2⟩ : Vec).OK 7 (l.length + 1) (cellsOf (insL l i s))) x ∧ Near W W' g ((fun x : Nat × Nat × List Value => x.1) x) ((fun x : Nat × Nat × List Value => .cells (cellsOf (insL l i s) ++ x.2.2).toArray 42 (0, 0)) x) := by
  obtain ⟨hc1, hc2, hc3⟩ : l.length ≤ cap ∧ cap ≤ maxLen ∧ (cellsOf l).length + junk.length = cap * 7 := hV.cap (by simp)
  have hll : (insL l i s).length = l.length + 1 := by simp only [insL, List.length_append, List.length_take, List.length_cons, List.length_drop]; omega
  have key : Calls Tryz.prog 32 [slv (some ⟨g, 0, none⟩) l.length cap, .int .i64 (i : Nat), slv (some ⟨gs, 0, none⟩) 1 cs].toArray W fun e W' => ∃ x, e = .returned ((fun x : Nat × Nat × List Value => slv (some ⟨x.1, 0, none⟩) (l.length + 1) x.2.1) x) ∧
      (fun x : Nat × Nat × List Value => (⟨some x.1, x.2.1, x.2.2⟩ : Vec).OK 7 (l.length + 1) (cellsOf (insL l i s))) x ∧ Below (noHeap W).heap.size (noHeap W) W' ∧ NewBx (noHeap W) W' ((fun x : Nat × Nat × List Value => [grpB (othersL W g), ⟨x.1, 42, cellsOf (insL l i s) ++ x.2.2, true, none⟩]) x) := by
    refine calls_enterT (X := Nat × Nat × List Value) (val := fun x => slv (some ⟨x.1, 0, none⟩) (l.length + 1) x.2.1) (Φ := fun x => (⟨some x.1, x.2.1, x.2.2⟩ : Vec).OK 7 (l.length + 1) (cellsOf (insL l i s))) (nb := fun x => [grpB (othersL W g), ⟨x.1, 42, cellsOf (insL l i s) ++ x.2.2, true, none⟩]) (Hp.enterT (B := ⟨g, 42, cellsOf l ++ junk, true, none⟩) rfl hg) Tryz.func32 rfl rfl rfl ?_
    have hrs : ∀ {W1 : World} {bx : List Bx}, Hp (noHeap W) bx W1 → nth bx 0 = some (grpB (othersL W g)) → RowAt W1 gs 0 s.cells := fun hp h0 => RowAt.of_grp hp 0 h0 (mem_others.2 ⟨hne, hs⟩)
    have hsc : cellsOf [s] = s.cells := List.append_nil _
    have hn1 : IntKind.i64.wrap (((l.length : Nat) : Int) + ((1 : Nat) : Int)) = ((l.length + 1 : Nat) : Int) := (wrap_id (by omega) (by omega)).trans (by omega)
    repeat (first | refine zA ?_ | refine zB ?_ | refine zC ?_ | refine zD ?_ | refine zE ?_ | refine zF ?_ | refine zG ?_ | refine zH ?_ | refine zI ?_ | refine zJ ?_ | refine zK ?_ | refine zL ?_ | refine zM rfl ?_ | refine zN ?_ | refine zO ?_ | refine zP ?_ | refine zQ ?_ | refine zR rfl ?_ | refine zS rfl ?_ | refine zT Tryz.mixed (by kernel_rfl) ?_)
    refine wl_pure Tryz.hT rfl rfl rfl ?_
    refine wl_nil ?_
    repeat (first | refine zA ?_ | refine zB ?_ | refine zC ?_ | refine zD ?_ | refine zE ?_ | refine zF ?_ | refine zG ?_ | refine zH ?_ | refine zI ?_ | refine zJ ?_ | refine zK ?_ | refine zL ?_ | refine zM rfl ?_ | refine zN ?_ | refine zO ?_ | refine zP ?_ | refine zQ ?_ | refine zR rfl ?_ | refine zS rfl ?_ | refine zT Tryz.mixed (by kernel_rfl) ?_)
    refine wl_pure Tryz.hT rfl rfl rfl ?_
    refine wl_pure Tryz.hT rfl rfl rfl ?_
    refine wl_slice_l i Tryz.hT rfl rfl rfl rfl rfl rfl rfl rfl (by omega) hc1 ?_
    refine wl_nil ?_
    repeat (first | refine zA ?_ | refine zB ?_ | refine zC ?_ | refine zD ?_ | refine zE ?_ | refine zF ?_ | refine zG ?_ | refine zH ?_ | refine zI ?_ | refine zJ ?_ | refine zK ?_ | refine zL ?_ | refine zM rfl ?_ | refine zN ?_ | refine zO ?_ | refine zP ?_ | refine zQ ?_ | refine zR rfl ?_ | refine zS rfl ?_ | refine zT Tryz.mixed (by kernel_rfl) ?_)
    refine wl_pure Tryz.hT rfl rfl rfl ?_
    refine wl_pure Tryz.hT rfl rfl rfl ?_
    refine wl_pure Tryz.hT rfl rfl rfl ?_
    refine wl_nil ?_
    repeat (first | refine zA ?_ | refine zB ?_ | refine zC ?_ | refine zD ?_ | refine zE ?_ | refine zF ?_ | refine zG ?_ | refine zH ?_ | refine zI ?_ | refine zJ ?_ | refine zK ?_ | refine zL ?_ | refine zM rfl ?_ | refine zN ?_ | refine zO ?_ | refine zP ?_ | refine zQ ?_ | refine zR rfl ?_ | refine zS rfl ?_ | refine zT Tryz.mixed (by kernel_rfl) ?_)
    refine wl_pure Tryz.hT rfl rfl rfl ?_
    refine wl_pure Tryz.hT rfl rfl rfl ?_
    refine wl_nil ?_
    repeat (first | refine zA ?_ | refine zB ?_ | refine zC ?_ | refine zD ?_ | refine zE ?_ | refine zF ?_ | refine zG ?_ | refine zH ?_ | refine zI ?_ | refine zJ ?_ | refine zK ?_ | refine zL ?_ | refine zM rfl ?_ | refine zN ?_ | refine zO ?_ | refine zP ?_ | refine zQ ?_ | refine zR rfl ?_ | refine zS rfl ?_ | refine zT Tryz.mixed (by kernel_rfl) ?_)
    refine wl_pure Tryz.hT rfl rfl rfl ?_
    refine wl_pure Tryz.hT rfl rfl rfl ?_
    refine wl_pure Tryz.hT rfl rfl rfl ?_
    refine wl_nil ?_
    repeat (first | refine zA ?_ | refine zB ?_ | refine zC ?_ | refine zD ?_ | refine zE ?_ | refine zF ?_ | refine zG ?_ | refine zH ?_ | refine zI ?_ | refine zJ ?_ | refine zK ?_ | refine zL ?_ | refine zM rfl ?_ | refine zN ?_ | refine zO ?_ | refine zP ?_ | refine zQ ?_ | refine zR rfl ?_ | refine zS rfl ?_ | refine zT Tryz.mixed (by kernel_rfl) ?_)
    refine wl_pure Tryz.hT rfl rfl rfl ?_
    refine wl_pure Tryz.hT rfl rfl rfl ?_
    refine wl_pure Tryz.hT rfl rfl rfl ?_
    refine wl_nil ?_
    repeat (first | refine zA ?_ | refine zB ?_ | refine zC ?_ | refine zD ?_ | refine zE ?_ | refine zF ?_ | refine zG ?_ | refine zH ?_ | refine zI ?_ | refine zJ ?_ | refine zK ?_ | refine zL ?_ | refine zM rfl ?_ | refine zN ?_ | refine zO ?_ | refine zP ?_ | refine zQ ?_ | refine zR rfl ?_ | refine zS rfl ?_ | refine zT Tryz.mixed (by kernel_rfl) ?_)
    refine wc_upd 22 (.bool false) rfl (congrArg Value.bool (beq_eq_false_iff_ne.2 (show ((i : Nat) : Int) ≠ ((l.length : Nat) : Int) by omega))) ?_
    repeat (first | refine zA ?_ | refine zB ?_ | refine zC ?_ | refine zD ?_ | refine zE ?_ | refine zF ?_ | refine zG ?_ | refine zH ?_ | refine zI ?_ | refine zJ ?_ | refine zK ?_ | refine zL ?_ | refine zM rfl ?_ | refine zN ?_ | refine zO ?_ | refine zP ?_ | refine zQ ?_ | refine zR rfl ?_ | refine zS rfl ?_ | refine zT Tryz.mixed (by kernel_rfl) ?_)
    refine wl_pure Tryz.hT rfl rfl rfl ?_
    refine wl_pure Tryz.hT rfl rfl rfl ?_
    refine wl_pure Tryz.hT rfl rfl rfl ?_
    refine wl_pure Tryz.hT rfl rfl rfl ?_
    refine wl_pure Tryz.hT rfl rfl rfl ?_
    refine wl_pure Tryz.hT rfl rfl rfl ?_
    refine wl_nil ?_
    repeat (first | refine zA ?_ | refine zB ?_ | refine zC ?_ | refine zD ?_ | refine zE ?_ | refine zF ?_ | refine zG ?_ | refine zH ?_ | refine zI ?_ | refine zJ ?_ | refine zK ?_ | refine zL ?_ | refine zM rfl ?_ | refine zN ?_ | refine zO ?_ | refine zP ?_ | refine zQ ?_ | refine zR rfl ?_ | refine zS rfl ?_ | refine zT Tryz.mixed (by kernel_rfl) ?_)
    refine wc_upd 31 (.bool (decide (cap < l.length + 1))) rfl (congrArg Value.bool ((congrArg (fun z => decide (z > (cap : Int))) hn1).trans (decide_eq_decide.2 (by omega)))) ?_
    refine wc_cond rfl (fun h => ?_) (fun h => ?_)
    · have h : cap < l.length + 1 := by simpa using h
      repeat (first | refine zA ?_ | refine zB ?_ | refine zC ?_ | refine zD ?_ | refine zE ?_ | refine zF ?_ | refine zG ?_ | refine zH ?_ | refine zI ?_ | refine zJ ?_ | refine zK ?_ | refine zL ?_ | refine zM rfl ?_ | refine zN ?_ | refine zO ?_ | refine zP ?_ | refine zQ ?_ | refine zR rfl ?_ | refine zS rfl ?_ | refine zT Tryz.mixed (by kernel_rfl) ?_)
      refine wl_pure Tryz.hT rfl rfl rfl ?_
      refine wl_pure Tryz.hT rfl rfl rfl ?_
      refine wl_slice_h i Tryz.hT rfl rfl rfl rfl rfl rfl rfl rfl (by omega) ?_
      refine wl_pure Tryz.hT rfl rfl rfl ?_
      refine wl_pure Tryz.hT rfl rfl rfl ?_
      refine wl_pure Tryz.hT rfl rfl rfl ?_
      refine wl_pure Tryz.hT rfl rfl rfl ?_
      refine wl_pure Tryz.hT rfl rfl rfl ?_
      refine wl_upd 39 (.int .i64 ((l.length + 1 - i : Nat) : Int)) rfl (congrArg (Value.int .i64) ((congrArg (fun z => IntKind.i64.wrap (z - (i : Int))) hn1).trans ((wrap_id (by omega) (by omega)).trans (by omega)))) ?_
      refine wl_appendGrow Tryz.vec27 (ku := .i64) (by kernel_rfl) (a := ⟨g, 0, none⟩) (cs := cellsOf (l.take i)) (l.length + 1 - i) rfl rfl rfl rfl rfl rfl rfl rfl rfl (by omega) (by omega) (by simp only [maxLen]; omega) (by omega) (by rw [cellsOf_length, List.length_take, Nat.min_eq_left (by omega)]) ?_ ?_
      · intro W1 hp j u hu
        have := (RowAt.of_bx hp 1 rfl rfl).get j u (cells_take i _ hu)
        rw [Addr.add_none]; exact this
      intro b cp hb1 hb2
      refine wl_upd 40 (slv (some ⟨b, 0, none⟩) (l.length + 1) cp) rfl (congrArg (fun m => Value.slice (some ⟨b, 0, none⟩) m cp) (by omega)) ?_
      refine wl_pure Tryz.hT rfl rfl rfl ?_
      refine wl_nil ?_
      repeat (first | refine zA ?_ | refine zB ?_ | refine zC ?_ | refine zD ?_ | refine zE ?_ | refine zF ?_ | refine zG ?_ | refine zH ?_ | refine zI ?_ | refine zJ ?_ | refine zK ?_ | refine zL ?_ | refine zM rfl ?_ | refine zN ?_ | refine zO ?_ | refine zP ?_ | refine zQ ?_ | refine zR rfl ?_ | refine zS rfl ?_ | refine zT Tryz.mixed (by kernel_rfl) ?_)
      refine wl_pure Tryz.hT rfl rfl rfl ?_
      refine wl_pure Tryz.hT rfl rfl rfl ?_
      refine wl_slice_l i Tryz.hT rfl rfl rfl rfl rfl rfl rfl rfl (by omega) (by omega) ?_
      refine wl_upd 43 (.slice (some ⟨b, i * 7, none⟩) (l.length + 1 - i) (cp - i)) rfl (congrArg (fun o => Value.slice (some ⟨b, o, none⟩) (l.length + 1 - i) (cp - i)) ((if_neg (by omega)).trans (Nat.zero_add _))) ?_
      refine wl_pure Tryz.hT rfl rfl rfl ?_
      have q1 : splice (cellsOf (l.take i) ++ (repL zSd (l.length + 1 - i) ++ repL zSd (cp - (i + (l.length + 1 - i))))) (i * 7) s.cells = cellsOf (l.take i) ++ (s.cells ++ (repL zSd (l.length - i) ++ repL zSd (cp - (l.length + 1)))) := by
        rw [show l.length + 1 - i = (l.length - i) + 1 by omega, show i * 7 = (cellsOf (l.take i)).length by rw [cellsOf_length, List.length_take, Nat.min_eq_left (by omega)]]
        show splice (cellsOf (l.take i) ++ ((zSd ++ repL zSd (l.length - i)) ++ _)) _ _ = _
        rw [List.append_assoc, splice_mid _ zSd _ s.cells rfl, show i + (l.length - i + 1) = l.length + 1 by omega]
      have q2 : splice (cellsOf (l.take i) ++ (s.cells ++ (repL zSd (l.length - i) ++ repL zSd (cp - (l.length + 1))))) ((i + 1) * 7) (cellsOf (l.drop i)) = cellsOf (insL l i s) ++ repL zSd (cp - (l.length + 1)) := by
        have e1 : (i + 1) * 7 = (cellsOf (l.take i) ++ s.cells).length := by rw [List.length_append, cellsOf_length, List.length_take, Nat.min_eq_left (by omega)]; show _ = i * 7 + 7; omega
        rw [← List.append_assoc (cellsOf (l.take i)), e1, splice_mid _ _ _ _ (by rw [repL_length, cellsOf_length, List.length_drop]; rfl), cellsOf_append]
        show _ = (_ ++ (s.cells ++ cellsOf (l.drop i))) ++ _
        simp only [List.append_assoc]
      refine wl_copy 2 (ys := cellsOf (l.take i) ++ (s.cells ++ (repL zSd (l.length - i) ++ repL zSd (cp - (l.length + 1))))) Tryz.vec27 (m := 1) (cs := s.cells) rfl rfl rfl rfl rfl rfl rfl rfl rfl rfl (Nat.min_eq_left (by omega)) rfl ?_ rfl ?_ q1 ?_
      · intro W1 hp j u hu
        rw [Addr.add_none]; exact (hrs hp rfl).get j u hu
      · show i * 7 + 7 ≤ (cellsOf (l.take i) ++ (repL zSd (l.length + 1 - i) ++ repL zSd (cp - (i + (l.length + 1 - i))))).length
        rw [List.length_append, List.length_append, repL_length, repL_length, cellsOf_length, List.length_take, Nat.min_eq_left (by omega)]
        show i * 7 + 7 ≤ i * 7 + ((l.length + 1 - i) * 7 + _)
        omega
      have fit : (i + 1) * 7 + (cellsOf (l.drop i)).length ≤ (cellsOf (l.take i) ++ (s.cells ++ (repL zSd (l.length - i) ++ repL zSd (cp - (l.length + 1))))).length := by
        rw [List.length_append, List.length_append, List.length_append, repL_length, cellsOf_length, cellsOf_length, List.length_take, List.length_drop, Nat.min_eq_left (by omega)]
        show (i + 1) * 7 + (l.length - i) * 7 ≤ i * 7 + (7 + ((l.length - i) * 7 + _))
        omega
      repeat (first | refine zC ?_ | refine zD ?_ | refine zE ?_ | refine zF ?_ | refine zG ?_ | refine zH ?_ | refine zI ?_ | refine zJ ?_ | refine zK ?_ | refine zL ?_ | refine zM rfl ?_ | refine zN ?_ | refine zO ?_ | refine zP ?_ | refine zQ ?_ | refine zR rfl ?_ | refine zS rfl ?_)
      repeat refine wc_seq ?_
      refine wc_lateY (X := Unit) [true, true, true, true, false, true, true, false, false] (fun _ => [(9, slv (some ⟨b, 0, none⟩) (l.length + 1) cp)]) (fun _ => [grpB (othersL W g), ⟨b, 42, cellsOf (insL l i s) ++ repL zSd (cp - (l.length + 1)), true, none⟩])
        3 [grpB (othersL W g), ⟨g, 42, cellsOf l ++ junk, true, none⟩, ⟨b, 42, cellsOf (l.take i) ++ (s.cells ++ (repL zSd (l.length - i) ++ repL zSd (cp - (l.length + 1)))), true, none⟩] Tryz.mixed (by kernel_rfl) ?_ ?_
      · refine wq_pure Tryz.hT rfl rfl rfl ?_
        refine wq_pure Tryz.hT rfl rfl rfl ?_
        refine wq_pure Tryz.hT rfl rfl rfl ?_
        refine wq_pure Tryz.hT rfl rfl rfl ?_
        refine wq_pure Tryz.hT rfl rfl rfl ?_
        refine wq_pure Tryz.hT rfl rfl rfl ?_
        refine wq_wt ?_
        first | refine wt_step rfl rfl (by ((repeat (first | refine Weak.same ?_ | refine Weak.off rfl ?_)); exact trivial)) ?_ | refine wt_stepF rfl rfl (by kernel_rfl) ?_
        refine RS.cons ?_ (RS.cons ?_ (RS.nil))
        · refine wl_slice_l (i + 1) Tryz.hT rfl rfl rfl rfl rfl rfl rfl ((wrap_id (by omega) (by omega)).trans (by omega)) (by omega) (by omega) ?_; refine wl_upd 50 (.slice (some ⟨b, (i + 1) * 7, none⟩) (l.length + 1 - (i + 1)) (cp - (i + 1))) rfl (congrArg (fun o => Value.slice (some ⟨b, o, none⟩) (l.length + 1 - (i + 1)) (cp - (i + 1))) ((if_neg (by omega)).trans (Nat.zero_add _))) ?_
          refine wl_nil ?_
          refine ne_wt ?_
          first | refine wt_step rfl rfl (by ((repeat (first | refine Weak.same ?_ | refine Weak.off rfl ?_)); exact trivial)) ?_ | refine wt_stepF rfl rfl (by kernel_rfl) ?_
          refine RS.cons ?_ (RS.nil)
          refine wl_slice_l i Tryz.hT rfl rfl rfl rfl rfl rfl rfl rfl (by omega) hc1 ?_; refine wl_upd 53 (.slice (some ⟨g, i * 7, none⟩) (l.length - i) (cap - i)) rfl (congrArg (fun o => Value.slice (some ⟨g, o, none⟩) (l.length - i) (cap - i)) ((if_neg (by omega)).trans (Nat.zero_add _))) ?_
          refine wl_nil ?_
          refine ne_wt ?_
          first | refine wt_step rfl rfl (by ((repeat (first | refine Weak.same ?_ | refine Weak.off rfl ?_)); exact trivial)) ?_ | refine wt_stepF rfl rfl (by kernel_rfl) ?_
          refine RS.cons ?_ (RS.nil)
          refine wl_copy 2 (ys := cellsOf (insL l i s) ++ repL zSd (cp - (l.length + 1))) Tryz.vec27 (m := l.length - i) (cs := cellsOf (l.drop i)) rfl rfl rfl rfl rfl rfl rfl rfl rfl rfl (by rw [show l.length + 1 - (i + 1) = l.length - i by omega]; exact Nat.min_self _) (by rw [cellsOf_length, List.length_drop]) (fun W1 hp j u hu => by rw [Addr.add_none]; have := (RowAt.of_bx hp 1 rfl rfl).get _ u (cells_drop i (by omega) j hu); rw [Nat.zero_add] at this; exact this) (allOne_cells _) fit q2 ?_
          refine wl_nil ?_
          refine ne_wt ?_
          first | refine wt_done rfl (by ((repeat (first | refine Weak.same ?_ | refine Weak.off rfl ?_)); exact trivial)) ?_ | refine wt_doneF rfl (by kernel_rfl) ?_
          exact ne_late () ⟨rfl, trivial⟩ [0, 2] (by decide) rfl
        · refine wl_slice_l i Tryz.hT rfl rfl rfl rfl rfl rfl rfl rfl (by omega) hc1 ?_; refine wl_upd 53 (.slice (some ⟨g, i * 7, none⟩) (l.length - i) (cap - i)) rfl (congrArg (fun o => Value.slice (some ⟨g, o, none⟩) (l.length - i) (cap - i)) ((if_neg (by omega)).trans (Nat.zero_add _))) ?_
          refine wl_nil ?_
          refine ne_wt ?_
          first | refine wt_step rfl rfl (by ((repeat (first | refine Weak.same ?_ | refine Weak.off rfl ?_)); exact trivial)) ?_ | refine wt_stepF rfl rfl (by kernel_rfl) ?_
          refine RS.cons ?_ (RS.nil)
          refine wl_slice_l (i + 1) Tryz.hT rfl rfl rfl rfl rfl rfl rfl ((wrap_id (by omega) (by omega)).trans (by omega)) (by omega) (by omega) ?_; refine wl_upd 50 (.slice (some ⟨b, (i + 1) * 7, none⟩) (l.length + 1 - (i + 1)) (cp - (i + 1))) rfl (congrArg (fun o => Value.slice (some ⟨b, o, none⟩) (l.length + 1 - (i + 1)) (cp - (i + 1))) ((if_neg (by omega)).trans (Nat.zero_add _))) ?_
          refine wl_nil ?_
          refine ne_wt ?_
          first | refine wt_step rfl rfl (by ((repeat (first | refine Weak.same ?_ | refine Weak.off rfl ?_)); exact trivial)) ?_ | refine wt_stepF rfl rfl (by kernel_rfl) ?_
          refine RS.cons ?_ (RS.nil)
          refine wl_copy 2 (ys := cellsOf (insL l i s) ++ repL zSd (cp - (l.length + 1))) Tryz.vec27 (m := l.length - i) (cs := cellsOf (l.drop i)) rfl rfl rfl rfl rfl rfl rfl rfl rfl rfl (by rw [show l.length + 1 - (i + 1) = l.length - i by omega]; exact Nat.min_self _) (by rw [cellsOf_length, List.length_drop]) (fun W1 hp j u hu => by rw [Addr.add_none]; have := (RowAt.of_bx hp 1 rfl rfl).get _ u (cells_drop i (by omega) j hu); rw [Nat.zero_add] at this; exact this) (allOne_cells _) fit q2 ?_
          refine wl_nil ?_
          refine ne_wt ?_
          first | refine wt_done rfl (by ((repeat (first | refine Weak.same ?_ | refine Weak.off rfl ?_)); exact trivial)) ?_ | refine wt_doneF rfl (by kernel_rfl) ?_
          exact ne_late () ⟨rfl, trivial⟩ [0, 2] (by decide) rfl
      intro _
      repeat (first | refine zA ?_ | refine zB ?_ | refine zC ?_ | refine zD ?_ | refine zE ?_ | refine zF ?_ | refine zG ?_ | refine zH ?_ | refine zI ?_ | refine zJ ?_ | refine zK ?_ | refine zL ?_ | refine zM rfl ?_ | refine zN ?_ | refine zO ?_ | refine zP ?_ | refine zQ ?_ | refine zR rfl ?_ | refine zS rfl ?_ | refine zT Tryz.mixed (by kernel_rfl) ?_)
      refine wl_pure Tryz.hT rfl rfl rfl ?_
      refine wl_pure Tryz.hT rfl rfl rfl ?_
      refine wl_nil ?_
      repeat (first | refine zA ?_ | refine zB ?_ | refine zC ?_ | refine zD ?_ | refine zE ?_ | refine zF ?_ | refine zG ?_ | refine zH ?_ | refine zI ?_ | refine zJ ?_ | refine zK ?_ | refine zL ?_ | refine zM rfl ?_ | refine zN ?_ | refine zO ?_ | refine zP ?_ | refine zQ ?_ | refine zR rfl ?_ | refine zS rfl ?_ | refine zT Tryz.mixed (by kernel_rfl) ?_)
      refine ne_ret1 Tryz.hT rfl (.tmp rfl) (b, cp, repL zSd (cp - (l.length + 1))) rfl ⟨by rw [cellsOf_length, hll], (fun h => by cases h), fun _ => ⟨by show l.length + 1 ≤ cp; omega, hb2, ?_⟩⟩ fun W1 hp => (hp.pick (l := [grpB (othersL W g), ⟨b, 42, cellsOf (insL l i s) ++ repL zSd (cp - (l.length + 1)), true, none⟩]) [0, 1] (by decide) rfl).own
      rw [cellsOf_length, hll, repL_length]
      show (l.length + 1) * 7 + (cp - (l.length + 1)) * 7 = cp * 7
      omega
    have h : l.length + 1 ≤ cap := by simp at h; omega
    have hjl : junk.length = (cap - l.length) * 7 := by rw [cellsOf_length] at hc3; omega
    repeat (first | refine zA ?_ | refine zB ?_ | refine zC ?_ | refine zD ?_ | refine zE ?_ | refine zF ?_ | refine zG ?_ | refine zH ?_ | refine zI ?_ | refine zJ ?_ | refine zK ?_ | refine zL ?_ | refine zM rfl ?_ | refine zN ?_ | refine zO ?_ | refine zP ?_ | refine zQ ?_ | refine zR rfl ?_ | refine zS rfl ?_ | refine zT Tryz.mixed (by kernel_rfl) ?_)
    refine wl_pure Tryz.hT rfl rfl rfl ?_
    refine wl_pure Tryz.hT rfl rfl rfl ?_
    refine wl_pure Tryz.hT rfl rfl rfl ?_
    refine wl_pure Tryz.hT rfl rfl rfl ?_
    refine wl_slice_h (l.length + 1) Tryz.hT rfl rfl rfl rfl rfl rfl rfl hn1 h ?_
    refine wl_pure Tryz.hT rfl rfl rfl ?_
    refine wl_nil ?_
    repeat (first | refine zA ?_ | refine zB ?_ | refine zC ?_ | refine zD ?_ | refine zE ?_ | refine zF ?_ | refine zG ?_ | refine zH ?_ | refine zI ?_ | refine zJ ?_ | refine zK ?_ | refine zL ?_ | refine zM rfl ?_ | refine zN ?_ | refine zO ?_ | refine zP ?_ | refine zQ ?_ | refine zR rfl ?_ | refine zS rfl ?_ | refine zT Tryz.mixed (by kernel_rfl) ?_)
    refine wl_pure Tryz.hT rfl rfl rfl ?_
    refine wl_pure Tryz.hT rfl rfl rfl ?_
    refine wl_pure Tryz.hT rfl rfl rfl ?_
    refine wl_pure Tryz.hT rfl rfl rfl ?_
    refine wl_pure Tryz.hT rfl rfl rfl ?_
    have hi1 : IntKind.i64.wrap (((i : Nat) : Int) + ((1 : Nat) : Int)) = ((i + 1 : Nat) : Int) := (wrap_id (by omega) (by omega)).trans (by omega)
    refine wl_slice_l (i + 1) Tryz.hT rfl rfl rfl rfl rfl rfl rfl hi1 (by omega) h ?_
    refine wl_ext (g := 75) (capt := []) (v := .bool false) rfl rfl rfl rfl rfl rfl (fun W1 hp => overlaps_run (hp.own.cell 0 (grpB (othersL W g)) rfl (gs, .cells s.cells.toArray 42 (0, 0)) (mem_others.2 ⟨hne, hs⟩)).1 (hp.at_ 1 _ rfl rfl).1 (by rw [List.length_append, cellsOf_length]; omega) hne) ?_
    refine wl_pure Tryz.hT rfl rfl rfl ?_
    refine wl_nil ?_
    repeat (first | refine zC ?_ | refine zD ?_ | refine zE ?_ | refine zF ?_ | refine zG ?_ | refine zH ?_ | refine zI ?_ | refine zJ ?_ | refine zK ?_ | refine zL ?_ | refine zM rfl ?_ | refine zN ?_ | refine zO ?_ | refine zP ?_ | refine zQ ?_ | refine zR rfl ?_ | refine zS rfl ?_)
    have q3 : splice (cellsOf l ++ junk) ((i + 1) * 7) (cellsOf (l.drop i)) = cellsOf (l.take i) ++ ((sd l i).cells ++ (cellsOf (l.drop i) ++ junk.drop 7)) := by
      have e1 : (i + 1) * 7 = (cellsOf (l.take i) ++ (sd l i).cells).length := by rw [List.length_append, cellsOf_length, List.length_take, Nat.min_eq_left (by omega)]; show _ = i * 7 + 7; omega
      have e2 : cellsOf l ++ junk = (cellsOf (l.take i) ++ (sd l i).cells) ++ ((cellsOf (l.drop (i + 1)) ++ junk.take 7) ++ junk.drop 7) := by
        rw [cellsOf_split hi]
        simp only [List.append_assoc, List.take_append_drop]
      rw [e1, e2, splice_mid _ _ _ _ (by rw [List.length_append, List.length_take, cellsOf_length, cellsOf_length, List.length_drop, List.length_drop]; omega), List.append_assoc]
    have q4 : splice (cellsOf (l.take i) ++ ((sd l i).cells ++ (cellsOf (l.drop i) ++ junk.drop 7))) (i * 7) s.cells = cellsOf (insL l i s) ++ junk.drop 7 := by
      rw [show i * 7 = (cellsOf (l.take i)).length by rw [cellsOf_length, List.length_take, Nat.min_eq_left (by omega)], splice_mid _ (sd l i).cells _ s.cells rfl, cellsOf_append]
      show _ = (_ ++ (s.cells ++ cellsOf (l.drop i))) ++ _
      simp only [List.append_assoc]
    have fit : (i + 1) * 7 + (cellsOf (l.drop i)).length ≤ (cellsOf l ++ junk).length := by
      rw [List.length_append, cellsOf_length, cellsOf_length, List.length_drop, hjl]
      omega
    have fit2 : i * 7 + s.cells.length ≤ (cellsOf (l.take i) ++ ((sd l i).cells ++ (cellsOf (l.drop i) ++ junk.drop 7))).length := by
      rw [List.length_append, List.length_append, cellsOf_length, List.length_take, Nat.min_eq_left (by omega)]
      show i * 7 + 7 ≤ i * 7 + (7 + _)
      omega
    repeat refine wc_seq ?_
    refine wc_lateY (X := Unit) [true, true, true, true, false, true, true, false, false] (fun _ => [(0, slv (some ⟨g, 0, none⟩) (l.length + 1) cap), (1, .int .i64 (i : Nat)), (2, slv (some ⟨gs, 0, none⟩) 1 cs)]) (fun _ => [grpB (othersL W g), ⟨g, 42, cellsOf (l.take i) ++ ((sd l i).cells ++ (cellsOf (l.drop i) ++ junk.drop 7)), true, none⟩])
      3 [grpB (othersL W g), ⟨g, 42, cellsOf l ++ junk, true, none⟩] Tryz.mixed (by kernel_rfl) ?_ ?_
    · refine wq_pure Tryz.hT rfl rfl rfl ?_
      refine wq_pure Tryz.hT rfl rfl rfl ?_
      refine wq_pure Tryz.hT rfl rfl rfl ?_
      refine wq_pure Tryz.hT rfl rfl rfl ?_
      refine wq_pure Tryz.hT rfl rfl rfl ?_
      refine wq_pure Tryz.hT rfl rfl rfl ?_
      refine wq_wt ?_
      first | refine wt_step rfl rfl (by ((repeat (first | refine Weak.same ?_ | refine Weak.off rfl ?_)); exact trivial)) ?_ | refine wt_stepF rfl rfl (by kernel_rfl) ?_
      refine RS.cons ?_ (RS.cons ?_ (RS.nil))
      · refine wl_slice_l (i + 1) Tryz.hT rfl rfl rfl rfl rfl rfl rfl hi1 (by omega) h ?_; refine wl_upd 73 (.slice (some ⟨g, (i + 1) * 7, none⟩) (l.length + 1 - (i + 1)) (cap - (i + 1))) rfl (congrArg (fun o => Value.slice (some ⟨g, o, none⟩) (l.length + 1 - (i + 1)) (cap - (i + 1))) ((if_neg (by omega)).trans (Nat.zero_add _))) ?_
        refine wl_nil ?_
        refine ne_wt ?_
        first | refine wt_step rfl rfl (by ((repeat (first | refine Weak.same ?_ | refine Weak.off rfl ?_)); exact trivial)) ?_ | refine wt_stepF rfl rfl (by kernel_rfl) ?_
        refine RS.cons ?_ (RS.nil)
        refine wl_slice_l i Tryz.hT rfl rfl rfl rfl rfl rfl rfl rfl (by omega) h ?_; refine wl_upd 76 (.slice (some ⟨g, i * 7, none⟩) (l.length + 1 - i) (cap - i)) rfl (congrArg (fun o => Value.slice (some ⟨g, o, none⟩) (l.length + 1 - i) (cap - i)) ((if_neg (by omega)).trans (Nat.zero_add _))) ?_
        refine wl_nil ?_
        refine ne_wt ?_
        first | refine wt_step rfl rfl (by ((repeat (first | refine Weak.same ?_ | refine Weak.off rfl ?_)); exact trivial)) ?_ | refine wt_stepF rfl rfl (by kernel_rfl) ?_
        refine RS.cons ?_ (RS.nil)
        refine wl_copy 1 (ys := cellsOf (l.take i) ++ ((sd l i).cells ++ (cellsOf (l.drop i) ++ junk.drop 7))) Tryz.vec27 (m := l.length - i) (cs := cellsOf (l.drop i)) rfl rfl rfl rfl rfl rfl rfl rfl rfl rfl (by rw [show l.length + 1 - (i + 1) = l.length - i by omega]; exact Nat.min_eq_right (by omega)) (by rw [cellsOf_length, List.length_drop]) (fun W1 hp j u hu => by rw [Addr.add_none]; have := (RowAt.of_bx hp 1 rfl rfl).get _ u (cells_drop i (by omega) j hu); rw [Nat.zero_add] at this; exact this) (allOne_cells _) fit q3 ?_
        refine wl_nil ?_
        refine ne_wt ?_
        first | refine wt_done rfl (by ((repeat (first | refine Weak.same ?_ | refine Weak.off rfl ?_)); exact trivial)) ?_ | refine wt_doneF rfl (by kernel_rfl) ?_
        exact ne_late () ⟨rfl, rfl, rfl, trivial⟩ [0, 1] (by decide) rfl
      · refine wl_slice_l i Tryz.hT rfl rfl rfl rfl rfl rfl rfl rfl (by omega) h ?_; refine wl_upd 76 (.slice (some ⟨g, i * 7, none⟩) (l.length + 1 - i) (cap - i)) rfl (congrArg (fun o => Value.slice (some ⟨g, o, none⟩) (l.length + 1 - i) (cap - i)) ((if_neg (by omega)).trans (Nat.zero_add _))) ?_
        refine wl_nil ?_
        refine ne_wt ?_
        first | refine wt_step rfl rfl (by ((repeat (first | refine Weak.same ?_ | refine Weak.off rfl ?_)); exact trivial)) ?_ | refine wt_stepF rfl rfl (by kernel_rfl) ?_
        refine RS.cons ?_ (RS.nil)
        refine wl_slice_l (i + 1) Tryz.hT rfl rfl rfl rfl rfl rfl rfl hi1 (by omega) h ?_; refine wl_upd 73 (.slice (some ⟨g, (i + 1) * 7, none⟩) (l.length + 1 - (i + 1)) (cap - (i + 1))) rfl (congrArg (fun o => Value.slice (some ⟨g, o, none⟩) (l.length + 1 - (i + 1)) (cap - (i + 1))) ((if_neg (by omega)).trans (Nat.zero_add _))) ?_
        refine wl_nil ?_
        refine ne_wt ?_
        first | refine wt_step rfl rfl (by ((repeat (first | refine Weak.same ?_ | refine Weak.off rfl ?_)); exact trivial)) ?_ | refine wt_stepF rfl rfl (by kernel_rfl) ?_
        refine RS.cons ?_ (RS.nil)
        refine wl_copy 1 (ys := cellsOf (l.take i) ++ ((sd l i).cells ++ (cellsOf (l.drop i) ++ junk.drop 7))) Tryz.vec27 (m := l.length - i) (cs := cellsOf (l.drop i)) rfl rfl rfl rfl rfl rfl rfl rfl rfl rfl (by rw [show l.length + 1 - (i + 1) = l.length - i by omega]; exact Nat.min_eq_right (by omega)) (by rw [cellsOf_length, List.length_drop]) (fun W1 hp j u hu => by rw [Addr.add_none]; have := (RowAt.of_bx hp 1 rfl rfl).get _ u (cells_drop i (by omega) j hu); rw [Nat.zero_add] at this; exact this) (allOne_cells _) fit q3 ?_
        refine wl_nil ?_
        refine ne_wt ?_
        first | refine wt_done rfl (by ((repeat (first | refine Weak.same ?_ | refine Weak.off rfl ?_)); exact trivial)) ?_ | refine wt_doneF rfl (by kernel_rfl) ?_
        exact ne_late () ⟨rfl, rfl, rfl, trivial⟩ [0, 1] (by decide) rfl
    intro _
    repeat (first | refine zA ?_ | refine zB ?_ | refine zC ?_ | refine zD ?_ | refine zE ?_ | refine zF ?_ | refine zG ?_ | refine zH ?_ | refine zI ?_ | refine zJ ?_ | refine zK ?_ | refine zL ?_ | refine zM rfl ?_ | refine zN ?_ | refine zO ?_ | refine zP ?_ | refine zQ ?_ | refine zR rfl ?_ | refine zS rfl ?_ | refine zT Tryz.mixed (by kernel_rfl) ?_)
    refine wl_pure Tryz.hT rfl rfl rfl ?_
    refine wl_pure Tryz.hT rfl rfl rfl ?_
    refine wl_slice_l i Tryz.hT rfl rfl rfl rfl rfl rfl rfl rfl (by omega) h ?_
    refine wl_upd 80 (.slice (some ⟨g, i * 7, none⟩) (l.length + 1 - i) (cap - i)) rfl (congrArg (fun o => Value.slice (some ⟨g, o, none⟩) (l.length + 1 - i) (cap - i)) ((if_neg (by omega)).trans (Nat.zero_add _))) ?_
    refine wl_pure Tryz.hT rfl rfl rfl ?_
    refine wl_copy 1 (ys := cellsOf (insL l i s) ++ junk.drop 7) Tryz.vec27 (m := 1) (cs := s.cells) rfl rfl rfl rfl rfl rfl rfl rfl rfl rfl (Nat.min_eq_left (by omega)) rfl (fun W1 hp j u hu => by rw [Addr.add_none]; exact (hrs hp rfl).get j u hu) rfl (fit2) q4 ?_
    repeat (first | refine zA ?_ | refine zB ?_ | refine zC ?_ | refine zD ?_ | refine zE ?_ | refine zF ?_ | refine zG ?_ | refine zH ?_ | refine zI ?_ | refine zJ ?_ | refine zK ?_ | refine zL ?_ | refine zM rfl ?_ | refine zN ?_ | refine zO ?_ | refine zP ?_ | refine zQ ?_ | refine zR rfl ?_ | refine zS rfl ?_ | refine zT Tryz.mixed (by kernel_rfl) ?_)
    refine wl_pure Tryz.hT rfl rfl rfl ?_
    refine wl_pure Tryz.hT rfl rfl rfl ?_
    refine wl_nil ?_
    repeat (first | refine zA ?_ | refine zB ?_ | refine zC ?_ | refine zD ?_ | refine zE ?_ | refine zF ?_ | refine zG ?_ | refine zH ?_ | refine zI ?_ | refine zJ ?_ | refine zK ?_ | refine zL ?_ | refine zM rfl ?_ | refine zN ?_ | refine zO ?_ | refine zP ?_ | refine zQ ?_ | refine zR rfl ?_ | refine zS rfl ?_ | refine zT Tryz.mixed (by kernel_rfl) ?_)
    refine ne_ret1 Tryz.hT rfl (.tmp rfl) (g, cap, junk.drop 7) rfl ⟨by rw [cellsOf_length, hll], (fun h => by cases h), fun _ => ⟨h, hc2, ?_⟩⟩ fun W1 hp => (hp.pick (l := [grpB (othersL W g), ⟨g, 42, cellsOf (insL l i s) ++ junk.drop 7, true, none⟩]) [0, 1] (by decide) rfl).own
    rw [cellsOf_length, hll, List.length_drop]
    show (l.length + 1) * 7 + (junk.length - 7) = cap * 7
    omega
  refine key.mono ?_
  rintro e W' ⟨x, he, hx, hb, hn'⟩
  exact ⟨x, he, hx, near_of hg rfl hb hn'⟩
end Go.Proofs.YtnpfkmbcejgnjaaGreatDoor
