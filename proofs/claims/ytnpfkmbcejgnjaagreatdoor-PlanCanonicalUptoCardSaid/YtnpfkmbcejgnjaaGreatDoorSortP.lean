/-
  slices.SortFunc over at most two rings with their numbers.
-/
import Derived.Test.YtnpfkmbcejgnjaaGreatDoorCanAt
import Derived.Test.YtnpfkmbcejgnjaaGreatDoorRings
import Derived.Test.YtnpfkmbcejgnjaaGreatDoorMoved
import Derived.Test.YtnpfkmbcejgnjaaGreatDoorSortLays
import Derived.Shelf.Small.Bits
namespace Go.Proofs.YtnpfkmbcejgnjaaGreatDoor
open Go Go.RowKit Go.Am
set_option maxRecDepth 10000
-- BOXES 3
theorem canon2_gives (W : World) (pa pb qa qb : Option Addr) (ca cb na nb cna cnb : Nat) (la lb : List Sd) (ha0 : 0 < la.length) (hb0 : 0 < lb.length) (hRa : RingP W pa la) (hRb : RingP W pb lb) :
    CallsR Tryz.prog 94 #[.agg #[slv pa la.length ca, .slice qa na cna], .agg #[slv pb lb.length cb, .slice qb nb cnb]] W (fun _ : Unit => .int .i64 (cmpS (sd la 0) (sd lb 0))) (fun _ => True) (fun _ => []) := by
  obtain ⟨b, off, rfl, hra⟩ := hRa.row ha0
  obtain ⟨b', off', rfl, hrb⟩ := hRb.row hb0
  refine calls_enter (args := [.agg #[slv (some ⟨b, off, none⟩) la.length ca, .slice qa na cna], .agg #[slv (some ⟨b', off', none⟩) lb.length cb, .slice qb nb cnb]]) Tryz.func94 rfl rfl rfl ?_
  refine zA ?_
  refine zB ?_
  (refine wl_box rfl rfl rfl rfl ?_; intro)
  (refine wl_box rfl rfl rfl rfl ?_; intro)
  refine wl_pure Tryz.hT rfl rfl rfl ?_
  refine wl_nil ?_
  refine zE ?_
  refine zA ?_
  refine zT Tryz.mixed (by kernel_rfl) ?_
  refine wq_pure Tryz.hT rfl rfl rfl ?_
  refine wq_loadBx 0 Tryz.hT rfl rfl rfl rfl rfl rfl rfl rfl ?_
  refine wq_indexAddr Tryz.hT rfl rfl rfl rfl rfl rfl rfl (by omega) (by omega) ?_
  refine wq_load rfl rfl rfl rfl (fun W hp => RowAt.load 0 Tryz.hT rfl ((fun W hp => (hra 0 ha0).hp hp) W hp) rfl) ?_
  refine wq_pure Tryz.hT rfl rfl rfl ?_
  refine wq_loadBx 1 Tryz.hT rfl rfl rfl rfl rfl rfl rfl rfl ?_
  refine wq_indexAddr Tryz.hT rfl rfl rfl rfl rfl rfl rfl (by omega) (by omega) ?_
  refine wq_load rfl rfl rfl rfl (fun W hp => RowAt.load 0 Tryz.hT rfl ((fun W hp => (hrb 0 hb0).hp hp) W hp) rfl) ?_
  refine wq_call1 (capt := []) rfl rfl rfl rfl rfl rfl (by kernel_rfl) (fun W _ => compare_gives (sd la 0) (sd lb 0) W) ?_
  refine wq_pure Tryz.hT rfl rfl rfl ?_
  refine wq_nil ?_
  refine wl_nil ?_
  refine zE ?_
  refine zO ?_
  exact ne_ret1 Tryz.hT rfl (.tmp rfl) () (rfl) trivial fun W _ => NewBx.nil _ _
theorem row_pt {W0 W : World} {bxs : List Bx} (hp : Hp W0 bxs W) (k : Nat) {g : Nat} {e : TypeId} {xs A B C : List Value} {off : Nat} (hk : nth bxs k = some ⟨g, e, xs, true, none⟩) (hxs : xs = A ++ (B ++ C)) (hoff : off = A.length) : RowAt W g off B := by
  have h := RowAt.of_bx hp k hk rfl
  refine ⟨h.lt, fun m u hu => ?_⟩
  have := h.get (A.length + m) u (by
    show xs[A.length + m]? = some u
    rw [hxs, List.getElem?_append_right (by omega), Nat.add_sub_cancel_left, List.getElem?_append_left (List.getElem?_eq_some_iff.1 hu).1]
    exact hu)
  rw [Nat.zero_add, ← hoff] at this
  exact this
/-- Nothing to be sorted. -/
theorem ins1_gives (W : World) (p : Option Addr) (n cap : Nat) (hn : n ≤ 1) : CallsR Tryz.prog 181 #[.slice p n cap, .int .i64 0, .int .i64 (n : Nat), .func (.func 94) #[] #[]] W (fun _ : Unit => .tuple #[]) (fun _ => True) (fun _ => []) := by
  refine calls_enter (args := [.slice p n cap, .int .i64 0, .int .i64 (n : Nat), .func (.func 94) #[] #[]]) Tryz.func181 rfl rfl rfl ?_
  refine zA ?_
  refine zB ?_
  refine wl_pure Tryz.hT rfl rfl rfl ?_
  refine wl_pure Tryz.hT rfl rfl rfl ?_
  refine wl_pure Tryz.hT rfl rfl rfl ?_
  refine wl_nil ?_
  refine zE ?_
  refine zH ?_
  refine wc_loop (X := Unit) (fun _ => [(0, .slice p n cap), (1, .int .i64 0), (2, .int .i64 (n : Nat)), (3, .func (.func 94) #[] #[]), (8, .int .i64 1)]) (fun _ => []) (fun _ => True) (fun _ => 0) () trivial ⟨rfl, rfl, rfl, rfl, rfl, trivial⟩ [] rfl ?_
  intro _ _
  refine zA ?_
  refine zA ?_
  refine zB ?_
  refine wl_pure Tryz.hT rfl rfl rfl ?_
  refine wl_pure Tryz.hT rfl rfl rfl ?_
  refine wl_pure Tryz.hT rfl rfl rfl ?_
  refine wl_nil ?_
  refine zE ?_
  refine wc_cond rfl (fun h => ?_) (fun h => ?_)
  · have h' : decide ((1 : Int) < (n : Nat)) = true := h
    rw [decide_eq_true_iff] at h'; omega
  refine zJ ?_
  refine zK ?_
  refine zK ?_
  refine zL ?_
  exact ne_end0 (X := Unit) (val := fun _ => .tuple #[]) (Φ := fun _ => True) (nb := fun _ => []) (fn := Tryz.f181) Tryz.hT rfl () rfl trivial fun W _ => NewBx.nil _ _
/-- All blocks of W but one are as they were. -/
structure Keep (W W' : World) (g : Nat) : Prop where
  size : W.heap.size ≤ W'.heap.size
  at_ : ∀ x, x ≠ g → x < W.heap.size → W'.heap[x]? = W.heap[x]?
theorem keep_of {W W' : World} {g : Nat} {B : Bx} {o : Obj} (hg : W.heap[g]? = some o) (hB : ∃ o', (g, o') ∈ B.blk) (hp : Hp (noHeap W) [grpB (othersL W g), B] W') : Keep W W' g := by
  have c0 : ∀ p ∈ othersL W g, W'.heap[p.1]? = some p.2 := fun p hq => (hp.own.cell 0 _ rfl p hq).1
  have old : ∀ x, x ≠ g → x < W.heap.size → W'.heap[x]? = W.heap[x]? := fun x hx hlt => by
    have h1 : W.heap[x]? = some W.heap[x] := Array.getElem?_eq_getElem hlt
    rw [h1]
    exact c0 (x, W.heap[x]) (mem_others.2 ⟨hx, h1⟩)
  refine ⟨?_, old⟩
  have hlt := (Array.getElem?_eq_some_iff.1 hg).1
  by_cases e : W.heap.size - 1 = g
  · obtain ⟨o', ho⟩ := hB
    have := (Array.getElem?_eq_some_iff.1 (hp.own.cell 1 B rfl _ ho).1).1
    have h2 : g < W'.heap.size := this
    omega
  · have h1 := old (W.heap.size - 1) e (by omega)
    rw [Array.getElem?_eq_getElem (show W.heap.size - 1 < W.heap.size by omega)] at h1
    have := (Array.getElem?_eq_some_iff.1 h1).1
    omega
theorem Keep.trans {W W1 W2 : World} {g : Nat} (h : Keep W W1 g) (h' : Keep W1 W2 g) : Keep W W2 g :=
  ⟨Nat.le_trans h.size h'.size, fun x hx hlt => (h'.at_ x hx (Nat.lt_of_lt_of_le hlt h.size)).trans (h.at_ x hx hlt)⟩
theorem ringP_keep {W W' : World} {g : Nat} {p : Option Addr} {l : List Sd} (h : RingP W p l) (hk : Keep W W' g) (hne : ∀ b off, p = some ⟨b, off, none⟩ → b ≠ g) : RingP W' p l := by
  rcases h with h | ⟨b, off, h1, h2⟩
  · exact .inl h
  · refine .inr ⟨b, off, h1, ⟨fun i s hs => ?_⟩⟩
    have h3 := h2.get i s hs
    refine ⟨Nat.lt_of_lt_of_le h3.lt hk.size, fun j x hx => ?_⟩
    have h4 := h3.get j x hx
    unfold World.cell? at h4 ⊢
    rw [hk.at_ b (hne b off h1) h3.lt]
    exact h4
/-- Two values in order. -/
def ord2 (c : Int) (A B : List Value) : List Value := if c < 0 then B ++ A else A ++ B
set_option maxHeartbeats 4000000 in
theorem ins2_gives (W : World) (g off cap : Nat) (pre junk : List Value) (p1 p2 q1 q2 : Option Addr) (m1 m2 n1 n2 c1 c2 d1 d2 : Nat) (c : Int) (hoff : off = pre.length) (hg : W.heap[g]? = some (.cells (pre ++ ([slv p1 m1 c1, slv p2 m2 c2, slv q1 n1 d1, slv q2 n2 d2] ++ junk)).toArray 119 (0, 0)))
    (hf : ∀ W', Keep W W' g → CallsR Tryz.prog 94 #[.agg #[slv q1 n1 d1, slv q2 n2 d2], .agg #[slv p1 m1 c1, slv p2 m2 c2]] W' (fun _ : Unit => .int .i64 c) (fun _ => True) (fun _ => [])) :
    Calls Tryz.prog 181 #[.slice (some ⟨g, off, none⟩) 2 cap, .int .i64 0, .int .i64 2, .func (.func 94) #[] #[]] W fun e W' => ∃ x : Unit, e = .returned ((fun _ => .tuple #[]) x) ∧ True ∧ Near W W' g ((fun _ => g) x) ((fun _ => .cells (pre ++ (ord2 c [slv p1 m1 c1, slv p2 m2 c2] [slv q1 n1 d1, slv q2 n2 d2] ++ junk)).toArray 119 (0, 0)) x) := by
  subst hoff
  have key : Calls Tryz.prog 181 [.slice (some ⟨g, pre.length, none⟩) 2 cap, .int .i64 0, .int .i64 2, .func (.func 94) #[] #[]].toArray W fun e W' => ∃ x : Unit, e = .returned ((fun _ => .tuple #[]) x) ∧ (fun _ => True) x ∧ Below (noHeap W).heap.size (noHeap W) W' ∧ NewBx (noHeap W) W' ((fun _ => [grpB (othersL W g), ⟨g, 119, pre ++ (ord2 c [slv p1 m1 c1, slv p2 m2 c2] [(slv q1 n1 d1), (slv q2 n2 d2)] ++ junk), true, none⟩]) x) := by
    refine calls_enterT (X := Unit) (val := fun _ => .tuple #[]) (Φ := fun _ => True) (nb := fun _ => [grpB (othersL W g), ⟨g, 119, pre ++ (ord2 c [slv p1 m1 c1, slv p2 m2 c2] [(slv q1 n1 d1), (slv q2 n2 d2)] ++ junk), true, none⟩]) (Hp.enterT (B := ⟨g, 119, pre ++ ([(slv p1 m1 c1), (slv p2 m2 c2), (slv q1 n1 d1), (slv q2 n2 d2)] ++ junk), true, none⟩) rfl hg) Tryz.func181 rfl rfl rfl ?_
    refine zA ?_
    refine zB ?_
    refine wl_pure Tryz.hT rfl rfl rfl ?_
    refine wl_pure Tryz.hT rfl rfl rfl ?_
    refine wl_pure Tryz.hT rfl rfl rfl ?_
    refine wl_nil ?_
    refine zE ?_
    refine zH ?_
    refine wc_loop (X := Bool) (fun k => [(0, .slice (some ⟨g, pre.length, none⟩) 2 cap), (1, .int .i64 0), (2, .int .i64 2), (3, .func (.func 94) #[] #[]), (8, .int .i64 (match k with | true => 1 | false => 2))]) (fun k => [grpB (othersL W g), ⟨g, 119, pre ++ ((match k with | true => [(slv p1 m1 c1), (slv p2 m2 c2), (slv q1 n1 d1), (slv q2 n2 d2)] | false => ord2 c [slv p1 m1 c1, slv p2 m2 c2] [(slv q1 n1 d1), (slv q2 n2 d2)]) ++ junk), true, none⟩])
      (fun _ => True) (fun k => match k with | true => 1 | false => 0) true trivial ⟨rfl, rfl, rfl, rfl, rfl, trivial⟩ [] rfl ?_
    rintro (_ | _) _
    · refine zA ?_
      refine zA ?_
      refine zB ?_
      refine wl_pure Tryz.hT rfl rfl rfl ?_
      refine wl_pure Tryz.hT rfl rfl rfl ?_
      refine wl_pure Tryz.hT rfl rfl rfl ?_
      refine wl_nil ?_
      refine zE ?_
      refine zS rfl ?_
      refine zJ ?_
      refine zK ?_
      refine zK ?_
      refine zL ?_
      refine ne_end0 (X := Unit) (val := fun _ => .tuple #[]) (Φ := fun _ => True) (nb := fun _ => [grpB (othersL W g), ⟨g, 119, pre ++ (ord2 c [slv p1 m1 c1, slv p2 m2 c2] [(slv q1 n1 d1), (slv q2 n2 d2)] ++ junk), true, none⟩]) (fn := Tryz.f181) Tryz.hT rfl () rfl trivial fun W1 hp => ?_
      exact (hp.pick (l := [grpB (othersL W g), ⟨g, 119, pre ++ (ord2 c [slv p1 m1 c1, slv p2 m2 c2] [(slv q1 n1 d1), (slv q2 n2 d2)] ++ junk), true, none⟩]) [0, 1] (by decide) rfl).own
    refine zA ?_
    refine zA ?_
    refine zB ?_
    refine wl_pure Tryz.hT rfl rfl rfl ?_
    refine wl_pure Tryz.hT rfl rfl rfl ?_
    refine wl_pure Tryz.hT rfl rfl rfl ?_
    refine wl_nil ?_
    refine zE ?_
    refine zR rfl ?_
    refine zI ?_
    refine zE ?_
    refine zA ?_
    refine zH ?_
    refine zA ?_
    refine zB ?_
    refine wl_pure Tryz.hT rfl rfl rfl ?_
    refine wl_pure Tryz.hT rfl rfl rfl ?_
    refine wl_nil ?_
    refine zE ?_
    refine zH ?_
    refine wc_loop (X := Bool) (fun k => [(0, .slice (some ⟨g, pre.length, none⟩) 2 cap), (1, .int .i64 0), (2, .int .i64 2), (3, .func (.func 94) #[] #[]), (8, .int .i64 1), (9, .int .i64 (match k with | true => 1 | false => 0))]) (fun k => [grpB (othersL W g), ⟨g, 119, pre ++ ((match k with | true => [(slv p1 m1 c1), (slv p2 m2 c2), (slv q1 n1 d1), (slv q2 n2 d2)] | false => [(slv q1 n1 d1), (slv q2 n2 d2), (slv p1 m1 c1), (slv p2 m2 c2)]) ++ junk), true, none⟩])
      (fun k => k = false → c < 0) (fun k => match k with | true => 1 | false => 0) true (fun h => by cases h) ⟨rfl, rfl, rfl, rfl, rfl, rfl, trivial⟩ [] rfl ?_
    rintro (_ | _) hk
    · refine zA ?_
      refine zA ?_
      refine zT Tryz.mixed (by kernel_rfl) ?_
      refine wq_pure Tryz.hT rfl rfl rfl ?_
      refine wq_pure Tryz.hT rfl rfl rfl ?_
      refine wq_pure Tryz.hT rfl rfl rfl ?_
      refine wq_pure Tryz.hT rfl rfl rfl ?_
      refine wq_skip rfl rfl ?_
      refine wq_skip rfl rfl ?_
      refine wq_skip rfl rfl ?_
      refine wq_skip rfl rfl ?_
      refine wq_skip rfl rfl ?_
      refine wq_skip rfl rfl ?_
      refine wq_skip rfl rfl ?_
      refine wq_skip rfl rfl ?_
      refine wq_skip rfl rfl ?_
      refine wq_skip rfl rfl ?_
      refine wq_skip rfl rfl ?_
      refine wq_skip rfl rfl ?_
      refine wq_pure Tryz.hT rfl rfl rfl ?_
      refine wq_nil ?_
      refine wl_nil ?_
      refine zE ?_
      refine zS rfl ?_
      refine zJ ?_
      refine zK ?_
      refine zK ?_
      refine zL ?_
      refine zN ?_
      refine zE ?_
      refine zB ?_
      refine wl_pure Tryz.hT rfl rfl rfl ?_
      refine wl_pure Tryz.hT rfl rfl rfl ?_
      refine wl_pure Tryz.hT rfl rfl rfl ?_
      refine wl_nil ?_
      exact ne_loop false trivial (by decide) ⟨rfl, rfl, rfl, rfl, rfl, trivial⟩ [] (by show _ = [_, (⟨g, 119, pre ++ (ord2 c [slv p1 m1 c1, slv p2 m2 c2] [slv q1 n1 d1, slv q2 n2 d2] ++ junk), true, none⟩ : Bx)] ++ []; rw [ord2, if_pos (hk rfl)]; rfl)
    clear hk
    refine wc_upd 9 (.int .i64 1) rfl rfl ?_
    refine zA ?_
    refine zA ?_
    refine zT Tryz.mixed (by kernel_rfl) ?_
    refine wq_pure Tryz.hT rfl rfl rfl ?_
    refine wq_pure Tryz.hT rfl rfl rfl ?_
    refine wq_pure Tryz.hT rfl rfl rfl ?_
    refine wq_pure Tryz.hT rfl rfl rfl ?_
    refine wq_pure Tryz.hT rfl rfl rfl ?_
    refine wq_pure Tryz.hT rfl rfl rfl ?_
    refine wq_pure Tryz.hT rfl rfl rfl ?_
    refine wq_indexAddr Tryz.hT rfl rfl rfl rfl rfl rfl rfl (by omega) (by omega) ?_
    refine wq_load rfl rfl rfl rfl (fun W hp => RowAt.load 0 Tryz.hT rfl ((fun W1 hp => show RowAt W1 g (pre.length + 1 * 2) [slv q1 n1 d1, slv q2 n2 d2] from row_pt hp 1 (A := pre ++ [slv p1 m1 c1, slv p2 m2 c2]) (C := junk) rfl (by simp) (by simp)) W hp) rfl) ?_
    refine wq_pure Tryz.hT rfl rfl rfl ?_
    refine wq_pure Tryz.hT rfl rfl rfl ?_
    refine wq_pure Tryz.hT rfl rfl rfl ?_
    refine wq_upd 29 (.int .i64 0) rfl rfl ?_
    refine wq_indexAddr Tryz.hT rfl rfl rfl rfl rfl rfl rfl (by omega) (by omega) ?_
    refine wq_load rfl rfl rfl rfl (fun W hp => RowAt.load 0 Tryz.hT rfl ((fun W1 hp => show RowAt W1 g (pre.length + 0 * 2) [slv p1 m1 c1, slv p2 m2 c2] from row_pt hp 1 (A := pre) (C := [slv q1 n1 d1, slv q2 n2 d2] ++ junk) rfl (by simp) (by simp)) W hp) rfl) ?_
    refine wq_call1 (capt := []) rfl rfl rfl rfl rfl rfl (by kernel_rfl) (fun W1 hp => hf W1 (keep_of hg ⟨_, List.mem_cons_self ..⟩ hp)) ?_
    refine wq_pure Tryz.hT rfl rfl rfl ?_
    refine wq_pure Tryz.hT rfl rfl rfl ?_
    refine wq_nil ?_
    refine wl_nil ?_
    refine zE ?_
    refine wc_cond rfl (fun h => ?_) (fun h => ?_)
    rotate_left
    · have hc : ¬ c < 0 := by have h' : decide (c < 0) = false := h; simpa using h'
      refine zJ ?_
      refine zK ?_
      refine zK ?_
      refine zL ?_
      refine zN ?_
      refine zE ?_
      refine zB ?_
      refine wl_pure Tryz.hT rfl rfl rfl ?_
      refine wl_pure Tryz.hT rfl rfl rfl ?_
      refine wl_pure Tryz.hT rfl rfl rfl ?_
      refine wl_nil ?_
      exact ne_loop false trivial (by decide) ⟨rfl, rfl, rfl, rfl, rfl, trivial⟩ [] (by show _ = [_, (⟨g, 119, pre ++ (ord2 c [slv p1 m1 c1, slv p2 m2 c2] [slv q1 n1 d1, slv q2 n2 d2] ++ junk), true, none⟩ : Bx)] ++ []; rw [ord2, if_neg hc]; rfl)
    have hc : c < 0 := by have h' : decide (c < 0) = true := h; simpa using h'
    clear h
    refine zI ?_
    refine zE ?_
    refine wc_seq ?_
    refine wc_block ?_
    repeat refine wc_seq ?_
    refine wc_lateY (X := Unit) [true, true, false, false, false, true, true, true, true, true, true, true, true, true, true, false, false, false] (fun _ => [(0, .slice (some ⟨g, pre.length, none⟩) 2 cap), (1, .int .i64 0), (2, .int .i64 2), (3, .func (.func 94) #[] #[]), (8, .int .i64 1), (9, .int .i64 1)]) (fun _ => [grpB (othersL W g), ⟨g, 119, pre ++ ([slv q1 n1 d1, slv q2 n2 d2, slv p1 m1 c1, slv p2 m2 c2] ++ junk), true, none⟩])
      6 [grpB (othersL W g), ⟨g, 119, pre ++ ([slv p1 m1 c1, slv p2 m2 c2, slv q1 n1 d1, slv q2 n2 d2] ++ junk), true, none⟩] Tryz.mixed (by kernel_rfl) ?_ ?_
    · refine wq_pure Tryz.hT rfl rfl rfl ?_
      refine wq_pure Tryz.hT rfl rfl rfl ?_
      refine wq_pure Tryz.hT rfl rfl rfl ?_
      refine wq_pure Tryz.hT rfl rfl rfl ?_
      refine wq_pure Tryz.hT rfl rfl rfl ?_
      refine wq_upd 44 (.int .i64 0) rfl rfl ?_
      refine wq_indexAddr Tryz.hT rfl rfl rfl rfl rfl rfl rfl (by omega) (by omega) ?_
      refine wq_load rfl rfl rfl rfl (fun W hp => RowAt.load 0 Tryz.hT rfl ((fun W1 hp => show RowAt W1 g (pre.length + 0 * 2) [slv p1 m1 c1, slv p2 m2 c2] from row_pt hp 1 (A := pre) (C := [slv q1 n1 d1, slv q2 n2 d2] ++ junk) rfl (by simp) (by simp)) W hp) rfl) ?_
      refine wq_pure Tryz.hT rfl rfl rfl ?_
      refine wq_pure Tryz.hT rfl rfl rfl ?_
      refine wq_indexAddr Tryz.hT rfl rfl rfl rfl rfl rfl rfl (by omega) (by omega) ?_
      refine wq_load rfl rfl rfl rfl (fun W hp => RowAt.load 0 Tryz.hT rfl ((fun W1 hp => show RowAt W1 g (pre.length + 1 * 2) [slv q1 n1 d1, slv q2 n2 d2] from row_pt hp 1 (A := pre ++ [slv p1 m1 c1, slv p2 m2 c2]) (C := junk) rfl (by simp) (by simp)) W hp) rfl) ?_
      refine wq_indexAddr Tryz.hT rfl rfl rfl rfl rfl rfl rfl (by omega) (by omega) ?_
      refine wq_wt ?_
      have h1 : splice (pre ++ ([slv p1 m1 c1, slv p2 m2 c2, slv q1 n1 d1, slv q2 n2 d2] ++ junk)) (pre.length + 1 * 2) (Value.agg #[slv p1 m1 c1, slv p2 m2 c2]).cells.toList = pre ++ ([slv p1 m1 c1, slv p2 m2 c2, slv p1 m1 c1, slv p2 m2 c2] ++ junk) := by
        rw [splice_right]; rfl
      have h2 : splice (pre ++ ([slv p1 m1 c1, slv p2 m2 c2, slv p1 m1 c1, slv p2 m2 c2] ++ junk)) (pre.length + 0 * 2) (Value.agg #[slv q1 n1 d1, slv q2 n2 d2]).cells.toList = pre ++ ([slv q1 n1 d1, slv q2 n2 d2, slv p1 m1 c1, slv p2 m2 c2] ++ junk) := by
        rw [splice_right]; rfl
      refine wt_step rfl rfl (by ((repeat (first | refine Weak.same ?_ | refine Weak.off rfl ?_)); exact trivial)) ?_
      refine RS.cons ?_ (RS.cons ?_ (RS.cons ?_ (RS.nil)))
      · refine wl_pure Tryz.hT rfl rfl rfl ?_
        refine wl_nil ?_
        refine ne_wt ?_
        refine wt_step rfl rfl (by ((repeat (first | refine Weak.same ?_ | refine Weak.off rfl ?_)); exact trivial)) ?_
        refine RS.cons ?_ (RS.cons ?_ (RS.nil))
        · refine wl_pure Tryz.hT rfl rfl rfl ?_
          refine wl_nil ?_
          refine ne_wt ?_
          refine wt_step rfl rfl (by ((repeat (first | refine Weak.same ?_ | refine Weak.off rfl ?_)); exact trivial)) ?_
          refine RS.cons ?_ (RS.cons ?_ (RS.nil))
          · refine wl_pure Tryz.hT rfl rfl rfl ?_
            refine wl_nil ?_
            refine ne_wt ?_
            refine wt_step rfl rfl (by ((repeat (first | refine Weak.same ?_ | refine Weak.off rfl ?_)); exact trivial)) ?_
            refine RS.cons ?_ (RS.nil)
            refine wl_storeTo 1 _ Tryz.hT rfl rfl rfl rfl rfl rfl rfl rfl rfl rfl (by show pre.length + 1 * 2 + 2 ≤ (pre ++ ([slv p1 m1 c1, slv p2 m2 c2, slv q1 n1 d1, slv q2 n2 d2] ++ junk)).length; simp <;> omega) h1 ?_
            refine wl_nil ?_
            refine ne_wt ?_
            refine wt_stepF rfl rfl (by kernel_rfl) ?_
            refine RS.cons ?_ (RS.nil)
            refine wl_upd 41 (.int .i64 0) rfl rfl ?_; (first | refine wl_indexAddr Tryz.hT rfl rfl rfl rfl rfl rfl rfl (by omega) (by omega) ?_ | refine wq_indexAddr Tryz.hT rfl rfl rfl rfl rfl rfl rfl (by omega) (by omega) ?_)
            refine wl_nil ?_
            refine ne_wt ?_
            refine wt_stepF rfl rfl (by kernel_rfl) ?_
            refine RS.cons ?_ (RS.nil)
            refine wl_storeTo 1 _ Tryz.hT rfl rfl rfl rfl rfl rfl rfl rfl rfl rfl (by show pre.length + 0 * 2 + 2 ≤ (pre ++ ([slv p1 m1 c1, slv p2 m2 c2, slv p1 m1 c1, slv p2 m2 c2] ++ junk)).length; simp <;> omega) h2 ?_
            refine wl_nil ?_
            refine ne_wt ?_
            refine wt_doneF rfl (by kernel_rfl) ?_
            exact ne_late () ⟨rfl, rfl, rfl, rfl, rfl, rfl, trivial⟩ [0, 1] (by decide) rfl
          · refine wl_storeTo 1 _ Tryz.hT rfl rfl rfl rfl rfl rfl rfl rfl rfl rfl (by show pre.length + 1 * 2 + 2 ≤ (pre ++ ([slv p1 m1 c1, slv p2 m2 c2, slv q1 n1 d1, slv q2 n2 d2] ++ junk)).length; simp <;> omega) h1 ?_
            refine wl_nil ?_
            refine ne_wt ?_
            refine wt_stepF rfl rfl (by kernel_rfl) ?_
            refine RS.cons ?_ (RS.nil)
            refine wl_pure Tryz.hT rfl rfl rfl ?_
            refine wl_nil ?_
            refine ne_wt ?_
            refine wt_stepF rfl rfl (by kernel_rfl) ?_
            refine RS.cons ?_ (RS.nil)
            refine wl_upd 41 (.int .i64 0) rfl rfl ?_; (first | refine wl_indexAddr Tryz.hT rfl rfl rfl rfl rfl rfl rfl (by omega) (by omega) ?_ | refine wq_indexAddr Tryz.hT rfl rfl rfl rfl rfl rfl rfl (by omega) (by omega) ?_)
            refine wl_nil ?_
            refine ne_wt ?_
            refine wt_stepF rfl rfl (by kernel_rfl) ?_
            refine RS.cons ?_ (RS.nil)
            refine wl_storeTo 1 _ Tryz.hT rfl rfl rfl rfl rfl rfl rfl rfl rfl rfl (by show pre.length + 0 * 2 + 2 ≤ (pre ++ ([slv p1 m1 c1, slv p2 m2 c2, slv p1 m1 c1, slv p2 m2 c2] ++ junk)).length; simp <;> omega) h2 ?_
            refine wl_nil ?_
            refine ne_wt ?_
            refine wt_doneF rfl (by kernel_rfl) ?_
            exact ne_late () ⟨rfl, rfl, rfl, rfl, rfl, rfl, trivial⟩ [0, 1] (by decide) rfl
        · refine wl_storeTo 1 _ Tryz.hT rfl rfl rfl rfl rfl rfl rfl rfl rfl rfl (by show pre.length + 1 * 2 + 2 ≤ (pre ++ ([slv p1 m1 c1, slv p2 m2 c2, slv q1 n1 d1, slv q2 n2 d2] ++ junk)).length; simp <;> omega) h1 ?_
          refine wl_nil ?_
          refine ne_wt ?_
          refine wt_stepF rfl rfl (by kernel_rfl) ?_
          refine RS.cons ?_ (RS.nil)
          refine wl_pure Tryz.hT rfl rfl rfl ?_
          refine wl_nil ?_
          refine ne_wt ?_
          refine wt_stepF rfl rfl (by kernel_rfl) ?_
          refine RS.cons ?_ (RS.nil)
          refine wl_pure Tryz.hT rfl rfl rfl ?_
          refine wl_nil ?_
          refine ne_wt ?_
          refine wt_stepF rfl rfl (by kernel_rfl) ?_
          refine RS.cons ?_ (RS.nil)
          refine wl_upd 41 (.int .i64 0) rfl rfl ?_; (first | refine wl_indexAddr Tryz.hT rfl rfl rfl rfl rfl rfl rfl (by omega) (by omega) ?_ | refine wq_indexAddr Tryz.hT rfl rfl rfl rfl rfl rfl rfl (by omega) (by omega) ?_)
          refine wl_nil ?_
          refine ne_wt ?_
          refine wt_stepF rfl rfl (by kernel_rfl) ?_
          refine RS.cons ?_ (RS.nil)
          refine wl_storeTo 1 _ Tryz.hT rfl rfl rfl rfl rfl rfl rfl rfl rfl rfl (by show pre.length + 0 * 2 + 2 ≤ (pre ++ ([slv p1 m1 c1, slv p2 m2 c2, slv p1 m1 c1, slv p2 m2 c2] ++ junk)).length; simp <;> omega) h2 ?_
          refine wl_nil ?_
          refine ne_wt ?_
          refine wt_doneF rfl (by kernel_rfl) ?_
          exact ne_late () ⟨rfl, rfl, rfl, rfl, rfl, rfl, trivial⟩ [0, 1] (by decide) rfl
      · refine wl_pure Tryz.hT rfl rfl rfl ?_
        refine wl_nil ?_
        refine ne_wt ?_
        refine wt_step rfl rfl (by ((repeat (first | refine Weak.same ?_ | refine Weak.off rfl ?_)); exact trivial)) ?_
        refine RS.cons ?_ (RS.cons ?_ (RS.cons ?_ (RS.nil)))
        · refine wl_pure Tryz.hT rfl rfl rfl ?_
          refine wl_nil ?_
          refine ne_wt ?_
          refine wt_step rfl rfl (by ((repeat (first | refine Weak.same ?_ | refine Weak.off rfl ?_)); exact trivial)) ?_
          refine RS.cons ?_ (RS.cons ?_ (RS.nil))
          · refine wl_pure Tryz.hT rfl rfl rfl ?_
            refine wl_nil ?_
            refine ne_wt ?_
            refine wt_step rfl rfl (by ((repeat (first | refine Weak.same ?_ | refine Weak.off rfl ?_)); exact trivial)) ?_
            refine RS.cons ?_ (RS.nil)
            refine wl_storeTo 1 _ Tryz.hT rfl rfl rfl rfl rfl rfl rfl rfl rfl rfl (by show pre.length + 1 * 2 + 2 ≤ (pre ++ ([slv p1 m1 c1, slv p2 m2 c2, slv q1 n1 d1, slv q2 n2 d2] ++ junk)).length; simp <;> omega) h1 ?_
            refine wl_nil ?_
            refine ne_wt ?_
            refine wt_stepF rfl rfl (by kernel_rfl) ?_
            refine RS.cons ?_ (RS.nil)
            refine wl_upd 41 (.int .i64 0) rfl rfl ?_; (first | refine wl_indexAddr Tryz.hT rfl rfl rfl rfl rfl rfl rfl (by omega) (by omega) ?_ | refine wq_indexAddr Tryz.hT rfl rfl rfl rfl rfl rfl rfl (by omega) (by omega) ?_)
            refine wl_nil ?_
            refine ne_wt ?_
            refine wt_stepF rfl rfl (by kernel_rfl) ?_
            refine RS.cons ?_ (RS.nil)
            refine wl_storeTo 1 _ Tryz.hT rfl rfl rfl rfl rfl rfl rfl rfl rfl rfl (by show pre.length + 0 * 2 + 2 ≤ (pre ++ ([slv p1 m1 c1, slv p2 m2 c2, slv p1 m1 c1, slv p2 m2 c2] ++ junk)).length; simp <;> omega) h2 ?_
            refine wl_nil ?_
            refine ne_wt ?_
            refine wt_doneF rfl (by kernel_rfl) ?_
            exact ne_late () ⟨rfl, rfl, rfl, rfl, rfl, rfl, trivial⟩ [0, 1] (by decide) rfl
          · refine wl_storeTo 1 _ Tryz.hT rfl rfl rfl rfl rfl rfl rfl rfl rfl rfl (by show pre.length + 1 * 2 + 2 ≤ (pre ++ ([slv p1 m1 c1, slv p2 m2 c2, slv q1 n1 d1, slv q2 n2 d2] ++ junk)).length; simp <;> omega) h1 ?_
            refine wl_nil ?_
            refine ne_wt ?_
            refine wt_stepF rfl rfl (by kernel_rfl) ?_
            refine RS.cons ?_ (RS.nil)
            refine wl_pure Tryz.hT rfl rfl rfl ?_
            refine wl_nil ?_
            refine ne_wt ?_
            refine wt_stepF rfl rfl (by kernel_rfl) ?_
            refine RS.cons ?_ (RS.nil)
            refine wl_upd 41 (.int .i64 0) rfl rfl ?_; (first | refine wl_indexAddr Tryz.hT rfl rfl rfl rfl rfl rfl rfl (by omega) (by omega) ?_ | refine wq_indexAddr Tryz.hT rfl rfl rfl rfl rfl rfl rfl (by omega) (by omega) ?_)
            refine wl_nil ?_
            refine ne_wt ?_
            refine wt_stepF rfl rfl (by kernel_rfl) ?_
            refine RS.cons ?_ (RS.nil)
            refine wl_storeTo 1 _ Tryz.hT rfl rfl rfl rfl rfl rfl rfl rfl rfl rfl (by show pre.length + 0 * 2 + 2 ≤ (pre ++ ([slv p1 m1 c1, slv p2 m2 c2, slv p1 m1 c1, slv p2 m2 c2] ++ junk)).length; simp <;> omega) h2 ?_
            refine wl_nil ?_
            refine ne_wt ?_
            refine wt_doneF rfl (by kernel_rfl) ?_
            exact ne_late () ⟨rfl, rfl, rfl, rfl, rfl, rfl, trivial⟩ [0, 1] (by decide) rfl
        · refine wl_pure Tryz.hT rfl rfl rfl ?_
          refine wl_nil ?_
          refine ne_wt ?_
          refine wt_step rfl rfl (by ((repeat (first | refine Weak.same ?_ | refine Weak.off rfl ?_)); exact trivial)) ?_
          refine RS.cons ?_ (RS.cons ?_ (RS.nil))
          · refine wl_pure Tryz.hT rfl rfl rfl ?_
            refine wl_nil ?_
            refine ne_wt ?_
            refine wt_step rfl rfl (by ((repeat (first | refine Weak.same ?_ | refine Weak.off rfl ?_)); exact trivial)) ?_
            refine RS.cons ?_ (RS.nil)
            refine wl_storeTo 1 _ Tryz.hT rfl rfl rfl rfl rfl rfl rfl rfl rfl rfl (by show pre.length + 1 * 2 + 2 ≤ (pre ++ ([slv p1 m1 c1, slv p2 m2 c2, slv q1 n1 d1, slv q2 n2 d2] ++ junk)).length; simp <;> omega) h1 ?_
            refine wl_nil ?_
            refine ne_wt ?_
            refine wt_stepF rfl rfl (by kernel_rfl) ?_
            refine RS.cons ?_ (RS.nil)
            refine wl_upd 41 (.int .i64 0) rfl rfl ?_; (first | refine wl_indexAddr Tryz.hT rfl rfl rfl rfl rfl rfl rfl (by omega) (by omega) ?_ | refine wq_indexAddr Tryz.hT rfl rfl rfl rfl rfl rfl rfl (by omega) (by omega) ?_)
            refine wl_nil ?_
            refine ne_wt ?_
            refine wt_stepF rfl rfl (by kernel_rfl) ?_
            refine RS.cons ?_ (RS.nil)
            refine wl_storeTo 1 _ Tryz.hT rfl rfl rfl rfl rfl rfl rfl rfl rfl rfl (by show pre.length + 0 * 2 + 2 ≤ (pre ++ ([slv p1 m1 c1, slv p2 m2 c2, slv p1 m1 c1, slv p2 m2 c2] ++ junk)).length; simp <;> omega) h2 ?_
            refine wl_nil ?_
            refine ne_wt ?_
            refine wt_doneF rfl (by kernel_rfl) ?_
            exact ne_late () ⟨rfl, rfl, rfl, rfl, rfl, rfl, trivial⟩ [0, 1] (by decide) rfl
          · refine wl_storeTo 1 _ Tryz.hT rfl rfl rfl rfl rfl rfl rfl rfl rfl rfl (by show pre.length + 1 * 2 + 2 ≤ (pre ++ ([slv p1 m1 c1, slv p2 m2 c2, slv q1 n1 d1, slv q2 n2 d2] ++ junk)).length; simp <;> omega) h1 ?_
            refine wl_nil ?_
            refine ne_wt ?_
            refine wt_stepF rfl rfl (by kernel_rfl) ?_
            refine RS.cons ?_ (RS.nil)
            refine wl_pure Tryz.hT rfl rfl rfl ?_
            refine wl_nil ?_
            refine ne_wt ?_
            refine wt_stepF rfl rfl (by kernel_rfl) ?_
            refine RS.cons ?_ (RS.nil)
            refine wl_upd 41 (.int .i64 0) rfl rfl ?_; (first | refine wl_indexAddr Tryz.hT rfl rfl rfl rfl rfl rfl rfl (by omega) (by omega) ?_ | refine wq_indexAddr Tryz.hT rfl rfl rfl rfl rfl rfl rfl (by omega) (by omega) ?_)
            refine wl_nil ?_
            refine ne_wt ?_
            refine wt_stepF rfl rfl (by kernel_rfl) ?_
            refine RS.cons ?_ (RS.nil)
            refine wl_storeTo 1 _ Tryz.hT rfl rfl rfl rfl rfl rfl rfl rfl rfl rfl (by show pre.length + 0 * 2 + 2 ≤ (pre ++ ([slv p1 m1 c1, slv p2 m2 c2, slv p1 m1 c1, slv p2 m2 c2] ++ junk)).length; simp <;> omega) h2 ?_
            refine wl_nil ?_
            refine ne_wt ?_
            refine wt_doneF rfl (by kernel_rfl) ?_
            exact ne_late () ⟨rfl, rfl, rfl, rfl, rfl, rfl, trivial⟩ [0, 1] (by decide) rfl
        · refine wl_storeTo 1 _ Tryz.hT rfl rfl rfl rfl rfl rfl rfl rfl rfl rfl (by show pre.length + 1 * 2 + 2 ≤ (pre ++ ([slv p1 m1 c1, slv p2 m2 c2, slv q1 n1 d1, slv q2 n2 d2] ++ junk)).length; simp <;> omega) h1 ?_
          refine wl_nil ?_
          refine ne_wt ?_
          refine wt_stepF rfl rfl (by kernel_rfl) ?_
          refine RS.cons ?_ (RS.cons ?_ (RS.nil))
          · refine wl_pure Tryz.hT rfl rfl rfl ?_
            refine wl_nil ?_
            refine ne_wt ?_
            refine wt_stepF rfl rfl (by kernel_rfl) ?_
            refine RS.cons ?_ (RS.nil)
            refine wl_pure Tryz.hT rfl rfl rfl ?_
            refine wl_nil ?_
            refine ne_wt ?_
            refine wt_stepF rfl rfl (by kernel_rfl) ?_
            refine RS.cons ?_ (RS.nil)
            refine wl_upd 41 (.int .i64 0) rfl rfl ?_; (first | refine wl_indexAddr Tryz.hT rfl rfl rfl rfl rfl rfl rfl (by omega) (by omega) ?_ | refine wq_indexAddr Tryz.hT rfl rfl rfl rfl rfl rfl rfl (by omega) (by omega) ?_)
            refine wl_nil ?_
            refine ne_wt ?_
            refine wt_stepF rfl rfl (by kernel_rfl) ?_
            refine RS.cons ?_ (RS.nil)
            refine wl_storeTo 1 _ Tryz.hT rfl rfl rfl rfl rfl rfl rfl rfl rfl rfl (by show pre.length + 0 * 2 + 2 ≤ (pre ++ ([slv p1 m1 c1, slv p2 m2 c2, slv p1 m1 c1, slv p2 m2 c2] ++ junk)).length; simp <;> omega) h2 ?_
            refine wl_nil ?_
            refine ne_wt ?_
            refine wt_doneF rfl (by kernel_rfl) ?_
            exact ne_late () ⟨rfl, rfl, rfl, rfl, rfl, rfl, trivial⟩ [0, 1] (by decide) rfl
          · refine wl_pure Tryz.hT rfl rfl rfl ?_
            refine wl_nil ?_
            refine ne_wt ?_
            refine wt_stepF rfl rfl (by kernel_rfl) ?_
            refine RS.cons ?_ (RS.nil)
            refine wl_pure Tryz.hT rfl rfl rfl ?_
            refine wl_nil ?_
            refine ne_wt ?_
            refine wt_stepF rfl rfl (by kernel_rfl) ?_
            refine RS.cons ?_ (RS.nil)
            refine wl_upd 41 (.int .i64 0) rfl rfl ?_; (first | refine wl_indexAddr Tryz.hT rfl rfl rfl rfl rfl rfl rfl (by omega) (by omega) ?_ | refine wq_indexAddr Tryz.hT rfl rfl rfl rfl rfl rfl rfl (by omega) (by omega) ?_)
            refine wl_nil ?_
            refine ne_wt ?_
            refine wt_stepF rfl rfl (by kernel_rfl) ?_
            refine RS.cons ?_ (RS.nil)
            refine wl_storeTo 1 _ Tryz.hT rfl rfl rfl rfl rfl rfl rfl rfl rfl rfl (by show pre.length + 0 * 2 + 2 ≤ (pre ++ ([slv p1 m1 c1, slv p2 m2 c2, slv p1 m1 c1, slv p2 m2 c2] ++ junk)).length; simp <;> omega) h2 ?_
            refine wl_nil ?_
            refine ne_wt ?_
            refine wt_doneF rfl (by kernel_rfl) ?_
            exact ne_late () ⟨rfl, rfl, rfl, rfl, rfl, rfl, trivial⟩ [0, 1] (by decide) rfl
      · refine wl_storeTo 1 _ Tryz.hT rfl rfl rfl rfl rfl rfl rfl rfl rfl rfl (by show pre.length + 1 * 2 + 2 ≤ (pre ++ ([slv p1 m1 c1, slv p2 m2 c2, slv q1 n1 d1, slv q2 n2 d2] ++ junk)).length; simp <;> omega) h1 ?_
        refine wl_nil ?_
        refine ne_wt ?_
        refine wt_stepF rfl rfl (by kernel_rfl) ?_
        refine RS.cons ?_ (RS.cons ?_ (RS.nil))
        · refine wl_pure Tryz.hT rfl rfl rfl ?_
          refine wl_nil ?_
          refine ne_wt ?_
          refine wt_stepF rfl rfl (by kernel_rfl) ?_
          refine RS.cons ?_ (RS.nil)
          refine wl_pure Tryz.hT rfl rfl rfl ?_
          refine wl_nil ?_
          refine ne_wt ?_
          refine wt_stepF rfl rfl (by kernel_rfl) ?_
          refine RS.cons ?_ (RS.nil)
          refine wl_pure Tryz.hT rfl rfl rfl ?_
          refine wl_nil ?_
          refine ne_wt ?_
          refine wt_stepF rfl rfl (by kernel_rfl) ?_
          refine RS.cons ?_ (RS.nil)
          refine wl_upd 41 (.int .i64 0) rfl rfl ?_; (first | refine wl_indexAddr Tryz.hT rfl rfl rfl rfl rfl rfl rfl (by omega) (by omega) ?_ | refine wq_indexAddr Tryz.hT rfl rfl rfl rfl rfl rfl rfl (by omega) (by omega) ?_)
          refine wl_nil ?_
          refine ne_wt ?_
          refine wt_stepF rfl rfl (by kernel_rfl) ?_
          refine RS.cons ?_ (RS.nil)
          refine wl_storeTo 1 _ Tryz.hT rfl rfl rfl rfl rfl rfl rfl rfl rfl rfl (by show pre.length + 0 * 2 + 2 ≤ (pre ++ ([slv p1 m1 c1, slv p2 m2 c2, slv p1 m1 c1, slv p2 m2 c2] ++ junk)).length; simp <;> omega) h2 ?_
          refine wl_nil ?_
          refine ne_wt ?_
          refine wt_doneF rfl (by kernel_rfl) ?_
          exact ne_late () ⟨rfl, rfl, rfl, rfl, rfl, rfl, trivial⟩ [0, 1] (by decide) rfl
        · refine wl_pure Tryz.hT rfl rfl rfl ?_
          refine wl_nil ?_
          refine ne_wt ?_
          refine wt_stepF rfl rfl (by kernel_rfl) ?_
          refine RS.cons ?_ (RS.cons ?_ (RS.nil))
          · refine wl_pure Tryz.hT rfl rfl rfl ?_
            refine wl_nil ?_
            refine ne_wt ?_
            refine wt_stepF rfl rfl (by kernel_rfl) ?_
            refine RS.cons ?_ (RS.nil)
            refine wl_pure Tryz.hT rfl rfl rfl ?_
            refine wl_nil ?_
            refine ne_wt ?_
            refine wt_stepF rfl rfl (by kernel_rfl) ?_
            refine RS.cons ?_ (RS.nil)
            refine wl_upd 41 (.int .i64 0) rfl rfl ?_; (first | refine wl_indexAddr Tryz.hT rfl rfl rfl rfl rfl rfl rfl (by omega) (by omega) ?_ | refine wq_indexAddr Tryz.hT rfl rfl rfl rfl rfl rfl rfl (by omega) (by omega) ?_)
            refine wl_nil ?_
            refine ne_wt ?_
            refine wt_stepF rfl rfl (by kernel_rfl) ?_
            refine RS.cons ?_ (RS.nil)
            refine wl_storeTo 1 _ Tryz.hT rfl rfl rfl rfl rfl rfl rfl rfl rfl rfl (by show pre.length + 0 * 2 + 2 ≤ (pre ++ ([slv p1 m1 c1, slv p2 m2 c2, slv p1 m1 c1, slv p2 m2 c2] ++ junk)).length; simp <;> omega) h2 ?_
            refine wl_nil ?_
            refine ne_wt ?_
            refine wt_doneF rfl (by kernel_rfl) ?_
            exact ne_late () ⟨rfl, rfl, rfl, rfl, rfl, rfl, trivial⟩ [0, 1] (by decide) rfl
          · refine wl_pure Tryz.hT rfl rfl rfl ?_
            refine wl_nil ?_
            refine ne_wt ?_
            refine wt_stepF rfl rfl (by kernel_rfl) ?_
            refine RS.cons ?_ (RS.nil)
            refine wl_pure Tryz.hT rfl rfl rfl ?_
            refine wl_nil ?_
            refine ne_wt ?_
            refine wt_stepF rfl rfl (by kernel_rfl) ?_
            refine RS.cons ?_ (RS.nil)
            refine wl_upd 41 (.int .i64 0) rfl rfl ?_; (first | refine wl_indexAddr Tryz.hT rfl rfl rfl rfl rfl rfl rfl (by omega) (by omega) ?_ | refine wq_indexAddr Tryz.hT rfl rfl rfl rfl rfl rfl rfl (by omega) (by omega) ?_)
            refine wl_nil ?_
            refine ne_wt ?_
            refine wt_stepF rfl rfl (by kernel_rfl) ?_
            refine RS.cons ?_ (RS.nil)
            refine wl_storeTo 1 _ Tryz.hT rfl rfl rfl rfl rfl rfl rfl rfl rfl rfl (by show pre.length + 0 * 2 + 2 ≤ (pre ++ ([slv p1 m1 c1, slv p2 m2 c2, slv p1 m1 c1, slv p2 m2 c2] ++ junk)).length; simp <;> omega) h2 ?_
            refine wl_nil ?_
            refine ne_wt ?_
            refine wt_doneF rfl (by kernel_rfl) ?_
            exact ne_late () ⟨rfl, rfl, rfl, rfl, rfl, rfl, trivial⟩ [0, 1] (by decide) rfl
    intro _
    refine zN ?_
    refine zE ?_
    refine zB ?_
    refine wl_pure Tryz.hT rfl rfl rfl ?_
    refine wl_pure Tryz.hT rfl rfl rfl ?_
    refine wl_pure Tryz.hT rfl rfl rfl ?_
    refine wl_nil ?_
    exact ne_loop false (fun _ => hc) (by decide) ⟨rfl, rfl, rfl, rfl, rfl, rfl, trivial⟩ [] rfl
  refine key.mono ?_
  rintro e W' ⟨x, he, _, hb, hn'⟩
  exact ⟨x, he, trivial, near_of hg rfl hb hn'⟩
theorem len_gives (x : Nat) (h : x ≤ 18446744073709551615) (W : World) : CallsR Tryz.prog 85 #[.int .u64 (x : Nat)] W (fun _ : Unit => .int .i64 (Lib.bitLen x)) (fun _ => True) (fun _ => []) := by
  refine CallsR.of1 ((Go.Proofs.Any.bits_Len (P := Tryz.prog) (ρ := Tryz.lays189_ren) { Tryz.lays189 with } (x : Int) W (by omega) (by omega)).mono ?_)
  rintro e w' ⟨rfl, rfl⟩
  exact ⟨rfl, Below.refl _ _⟩
theorem pdq1_gives (W : World) (p : Option Addr) (n cap : Nat) (z : Int) (hn : n ≤ 1) : CallsR Tryz.prog 148 #[.slice p n cap, .int .i64 0, .int .i64 (n : Nat), .int .i64 z, .func (.func 94) #[] #[]] W (fun _ : Unit => .tuple #[]) (fun _ => True) (fun _ => []) := by
  refine calls_enter (args := [.slice p n cap, .int .i64 0, .int .i64 (n : Nat), .int .i64 z, .func (.func 94) #[] #[]]) Tryz.func148 rfl rfl rfl ?_
  refine zA ?_
  refine zB ?_
  refine wl_pure Tryz.hT rfl rfl rfl ?_
  refine wl_nil ?_
  refine zE ?_
  refine zA ?_
  refine zB ?_
  refine wl_pure Tryz.hT rfl rfl rfl ?_
  refine wl_nil ?_
  refine zE ?_
  refine zH ?_
  refine wc_loop (X := Unit) (fun _ => [(0, .slice p n cap), (1, .int .i64 0), (2, .int .i64 (n : Nat)), (3, .int .i64 z), (4, .func (.func 94) #[] #[])]) (fun _ => []) (fun _ => True) (fun _ => 0) () trivial ⟨rfl, rfl, rfl, rfl, rfl, trivial⟩ [] rfl ?_
  intro _ _
  refine zH ?_
  refine zA ?_
  refine zB ?_
  refine wl_pure Tryz.hT rfl rfl rfl ?_
  refine wl_pure Tryz.hT rfl rfl rfl ?_
  refine wl_pure Tryz.hT rfl rfl rfl ?_
  refine wl_upd 23 (.int .i64 (n : Nat)) rfl (congrArg (Value.int .i64) (show w64 ((n : Nat) - 0) = _ by rw [w64_id (by omega) (by omega)]; omega)) ?_
  refine wl_pure Tryz.hT rfl rfl rfl ?_
  refine wl_nil ?_
  refine zE ?_
  refine zA ?_
  refine zA ?_
  refine zB ?_
  refine wl_pure Tryz.hT rfl rfl rfl ?_
  refine wl_pure Tryz.hT rfl rfl rfl ?_
  refine wl_nil ?_
  refine zE ?_
  refine wc_cond rfl (fun h => ?_) (fun h => ?_)
  rotate_left
  · have h' : decide (((n : Nat) : Int) ≤ 12) = false := h
    rw [decide_eq_false_iff_not] at h'; omega
  clear h
  refine zA ?_
  refine zB ?_
  refine wl_pure Tryz.hT rfl rfl rfl ?_
  refine wl_pure Tryz.hT rfl rfl rfl ?_
  refine wl_pure Tryz.hT rfl rfl rfl ?_
  refine wl_pure Tryz.hT rfl rfl rfl ?_
  refine wl_call1 (capt := []) rfl rfl rfl rfl rfl rfl (by kernel_rfl) (fun W _ => ins1_gives W p n cap hn) ?_
  refine wl_nil ?_
  refine zE ?_
  refine zO ?_
  refine zP ?_
  refine zQ ?_
  refine zP ?_
  refine zQ ?_
  exact ne_ret0 (X := Unit) (val := fun _ => .tuple #[]) (Φ := fun _ => True) (nb := fun _ => []) (fn := Tryz.f148) Tryz.hT rfl () rfl trivial fun W _ => NewBx.nil _ _
set_option maxHeartbeats 4000000 in
theorem pdq2_gives (W : World) (g off cap : Nat) (pre junk : List Value) (p1 p2 q1 q2 : Option Addr) (m1 m2 n1 n2 c1 c2 d1 d2 : Nat) (c : Int) (z : Int) (hoff : off = pre.length) (hg : W.heap[g]? = some (.cells (pre ++ ([slv p1 m1 c1, slv p2 m2 c2, slv q1 n1 d1, slv q2 n2 d2] ++ junk)).toArray 119 (0, 0)))
    (hf : ∀ W', Keep W W' g → CallsR Tryz.prog 94 #[.agg #[slv q1 n1 d1, slv q2 n2 d2], .agg #[slv p1 m1 c1, slv p2 m2 c2]] W' (fun _ : Unit => .int .i64 c) (fun _ => True) (fun _ => [])) :
    Calls Tryz.prog 148 #[.slice (some ⟨g, off, none⟩) 2 cap, .int .i64 0, .int .i64 2, .int .i64 z, .func (.func 94) #[] #[]] W fun e W' => ∃ x : Unit, e = .returned ((fun _ => .tuple #[]) x) ∧ True ∧ Near W W' g ((fun _ => g) x) ((fun _ => .cells (pre ++ (ord2 c [slv p1 m1 c1, slv p2 m2 c2] [slv q1 n1 d1, slv q2 n2 d2] ++ junk)).toArray 119 (0, 0)) x) := by
  have key : Calls Tryz.prog 148 [.slice (some ⟨g, off, none⟩) 2 cap, .int .i64 0, .int .i64 2, .int .i64 z, .func (.func 94) #[] #[]].toArray W fun e W' => ∃ x : Unit, e = .returned ((fun _ => .tuple #[]) x) ∧ (fun _ => True) x ∧ Below (noHeap W).heap.size (noHeap W) W' ∧ NewBx (noHeap W) W' ((fun _ => [grpB (othersL W g), ⟨g, 119, pre ++ (ord2 c [slv p1 m1 c1, slv p2 m2 c2] [slv q1 n1 d1, slv q2 n2 d2] ++ junk), true, none⟩]) x) := by
    refine calls_enterT (X := Unit) (val := fun _ => .tuple #[]) (Φ := fun _ => True) (nb := fun _ => [grpB (othersL W g), ⟨g, 119, pre ++ (ord2 c [slv p1 m1 c1, slv p2 m2 c2] [slv q1 n1 d1, slv q2 n2 d2] ++ junk), true, none⟩]) (Hp.enterT (B := ⟨g, 119, pre ++ ([slv p1 m1 c1, slv p2 m2 c2, slv q1 n1 d1, slv q2 n2 d2] ++ junk), true, none⟩) rfl hg) Tryz.func148 rfl rfl rfl ?_
    refine zA ?_
    refine zB ?_
    refine wl_pure Tryz.hT rfl rfl rfl ?_
    refine wl_nil ?_
    refine zE ?_
    refine zA ?_
    refine zB ?_
    refine wl_pure Tryz.hT rfl rfl rfl ?_
    refine wl_nil ?_
    refine zE ?_
    refine zH ?_
    refine wc_loop (X := Unit) (fun _ => [(0, .slice (some ⟨g, off, none⟩) 2 cap), (1, .int .i64 0), (2, .int .i64 2), (3, .int .i64 z), (4, .func (.func 94) #[] #[])]) (fun _ => [grpB (othersL W g), ⟨g, 119, pre ++ ([slv p1 m1 c1, slv p2 m2 c2, slv q1 n1 d1, slv q2 n2 d2] ++ junk), true, none⟩]) (fun _ => True) (fun _ => 0) () trivial ⟨rfl, rfl, rfl, rfl, rfl, trivial⟩ [] rfl ?_
    intro _ _
    refine zH ?_
    refine zA ?_
    refine zB ?_
    refine wl_pure Tryz.hT rfl rfl rfl ?_
    refine wl_pure Tryz.hT rfl rfl rfl ?_
    refine wl_pure Tryz.hT rfl rfl rfl ?_
    refine wl_upd 23 (.int .i64 2) rfl rfl ?_
    refine wl_pure Tryz.hT rfl rfl rfl ?_
    refine wl_nil ?_
    refine zE ?_
    refine zA ?_
    refine zA ?_
    refine zB ?_
    refine wl_pure Tryz.hT rfl rfl rfl ?_
    refine wl_pure Tryz.hT rfl rfl rfl ?_
    refine wl_nil ?_
    refine zE ?_
    refine zR rfl ?_
    refine zA ?_
    refine zB ?_
    refine wl_pure Tryz.hT rfl rfl rfl ?_
    refine wl_pure Tryz.hT rfl rfl rfl ?_
    refine wl_pure Tryz.hT rfl rfl rfl ?_
    refine wl_pure Tryz.hT rfl rfl rfl ?_
    refine wl_callN (X := Unit) (val := fun _ => .tuple #[]) (Φ := fun _ => True) (capt := []) 1 (B := ⟨g, 119, pre ++ ([slv p1 m1 c1, slv p2 m2 c2, slv q1 n1 d1, slv q2 n2 d2] ++ junk), true, none⟩) (L1 := []) (L2 := []) (b := g) (ob := .cells (pre ++ ([slv p1 m1 c1, slv p2 m2 c2, slv q1 n1 d1, slv q2 n2 d2] ++ junk)).toArray 119 (0, 0)) (fun _ => ⟨g, 119, pre ++ (ord2 c [slv p1 m1 c1, slv p2 m2 c2] [slv q1 n1 d1, slv q2 n2 d2] ++ junk), true, none⟩) (g' := fun _ => g) (o' := fun _ => .cells (pre ++ (ord2 c [slv p1 m1 c1, slv p2 m2 c2] [slv q1 n1 d1, slv q2 n2 d2] ++ junk)).toArray 119 (0, 0))
      rfl rfl rfl rfl rfl rfl (by kernel_rfl) rfl rfl (fun _ _ => rfl) (fun W1 hp => ins2_gives W1 g off cap pre junk p1 p2 q1 q2 m1 m2 n1 n2 c1 c2 d1 d2 c hoff (hp.own.cell 1 _ rfl (g, .cells (pre ++ ([slv p1 m1 c1, slv p2 m2 c2, slv q1 n1 d1, slv q2 n2 d2] ++ junk)).toArray 119 (0, 0)) (List.mem_cons_self ..)).1 (fun W2 hk => hf W2 ((keep_of hg ⟨_, List.mem_cons_self ..⟩ hp).trans hk))) (fun _ _ => ?_)
    refine wl_nil ?_
    refine zE ?_
    refine zO ?_
    refine zP ?_
    refine zQ ?_
    refine zP ?_
    refine zQ ?_
    refine ne_ret0 (X := Unit) (val := fun _ => .tuple #[]) (Φ := fun _ => True) (nb := fun _ => [grpB (othersL W g), ⟨g, 119, pre ++ (ord2 c [slv p1 m1 c1, slv p2 m2 c2] [slv q1 n1 d1, slv q2 n2 d2] ++ junk), true, none⟩]) (fn := Tryz.f148) Tryz.hT rfl () rfl trivial fun W1 hp => ?_
    exact (hp.pick (l := [grpB (othersL W g), ⟨g, 119, pre ++ (ord2 c [slv p1 m1 c1, slv p2 m2 c2] [slv q1 n1 d1, slv q2 n2 d2] ++ junk), true, none⟩]) [0, 1] (by decide) rfl).own
  refine key.mono ?_
  rintro e W' ⟨x, he, _, hb, hn'⟩
  exact ⟨x, he, trivial, near_of hg rfl hb hn'⟩
theorem sortF1_gives (W : World) (p : Option Addr) (n cap : Nat) (hn : n ≤ 1) : CallsR Tryz.prog 93 #[.slice p n cap, .func (.func 94) #[] #[]] W (fun _ : Unit => .tuple #[]) (fun _ => True) (fun _ => []) := by
  refine calls_enter (args := [.slice p n cap, .func (.func 94) #[] #[]]) Tryz.func93 rfl rfl rfl ?_
  have hz : ∃ z : Nat, z ≤ 18446744073709551615 ∧ IntKind.u64.wrap (n : Nat) = (z : Int) ∧ n = z := by
    rcases (show n = 0 ∨ n = 1 by omega) with rfl | rfl
    · exact ⟨0, by omega, rfl, rfl⟩
    · exact ⟨1, by omega, rfl, rfl⟩
  obtain ⟨z, hz1, hz2, rfl⟩ := hz
  refine zA ?_
  refine zB ?_
  refine wl_pure Tryz.hT rfl rfl rfl ?_
  refine wl_pure Tryz.hT rfl rfl rfl ?_
  refine wl_pure Tryz.hT rfl rfl rfl ?_
  refine wl_nil ?_
  refine zE ?_
  refine zB ?_
  refine wl_pure Tryz.hT rfl rfl rfl ?_
  refine wl_pure Tryz.hT rfl rfl rfl ?_
  refine wl_pure Tryz.hT rfl rfl rfl ?_
  refine wl_cvA (k := .u64) (kt := .i64) (by kernel_rfl) (by kernel_rfl) rfl rfl rfl rfl ?_
  refine wl_upd 10 (.int .u64 (n : Nat)) rfl (congrArg (Value.int .u64) hz2) ?_
  refine wl_call1 (capt := []) rfl rfl rfl rfl rfl rfl (by kernel_rfl) (fun W _ => len_gives n hz1 W) ?_
  refine wl_pure Tryz.hT rfl rfl rfl ?_
  refine wl_call1 (capt := []) rfl rfl rfl rfl rfl rfl (by kernel_rfl) (fun W _ => pdq1_gives W p n cap _ hn) ?_
  refine wl_nil ?_
  exact ne_end0 (X := Unit) (val := fun _ => .tuple #[]) (Φ := fun _ => True) (nb := fun _ => []) (fn := Tryz.f93) Tryz.hT rfl () rfl trivial fun W _ => NewBx.nil _ _
set_option maxHeartbeats 4000000 in
theorem sortF2_gives (W : World) (g off cap : Nat) (pre junk : List Value) (p1 p2 q1 q2 : Option Addr) (m1 m2 n1 n2 c1 c2 d1 d2 : Nat) (c : Int) (hoff : off = pre.length) (hg : W.heap[g]? = some (.cells (pre ++ ([slv p1 m1 c1, slv p2 m2 c2, slv q1 n1 d1, slv q2 n2 d2] ++ junk)).toArray 119 (0, 0)))
    (hf : ∀ W', Keep W W' g → CallsR Tryz.prog 94 #[.agg #[slv q1 n1 d1, slv q2 n2 d2], .agg #[slv p1 m1 c1, slv p2 m2 c2]] W' (fun _ : Unit => .int .i64 c) (fun _ => True) (fun _ => [])) :
    Calls Tryz.prog 93 #[.slice (some ⟨g, off, none⟩) 2 cap, .func (.func 94) #[] #[]] W fun e W' => ∃ x : Unit, e = .returned ((fun _ => .tuple #[]) x) ∧ True ∧ Near W W' g ((fun _ => g) x) ((fun _ => .cells (pre ++ (ord2 c [slv p1 m1 c1, slv p2 m2 c2] [slv q1 n1 d1, slv q2 n2 d2] ++ junk)).toArray 119 (0, 0)) x) := by
  have key : Calls Tryz.prog 93 [.slice (some ⟨g, off, none⟩) 2 cap, .func (.func 94) #[] #[]].toArray W fun e W' => ∃ x : Unit, e = .returned ((fun _ => .tuple #[]) x) ∧ (fun _ => True) x ∧ Below (noHeap W).heap.size (noHeap W) W' ∧ NewBx (noHeap W) W' ((fun _ => [grpB (othersL W g), ⟨g, 119, pre ++ (ord2 c [slv p1 m1 c1, slv p2 m2 c2] [slv q1 n1 d1, slv q2 n2 d2] ++ junk), true, none⟩]) x) := by
    refine calls_enterT (X := Unit) (val := fun _ => .tuple #[]) (Φ := fun _ => True) (nb := fun _ => [grpB (othersL W g), ⟨g, 119, pre ++ (ord2 c [slv p1 m1 c1, slv p2 m2 c2] [slv q1 n1 d1, slv q2 n2 d2] ++ junk), true, none⟩]) (Hp.enterT (B := ⟨g, 119, pre ++ ([slv p1 m1 c1, slv p2 m2 c2, slv q1 n1 d1, slv q2 n2 d2] ++ junk), true, none⟩) rfl hg) Tryz.func93 rfl rfl rfl ?_
    refine zA ?_
    refine zB ?_
    refine wl_pure Tryz.hT rfl rfl rfl ?_
    refine wl_pure Tryz.hT rfl rfl rfl ?_
    refine wl_pure Tryz.hT rfl rfl rfl ?_
    refine wl_nil ?_
    refine zE ?_
    refine zB ?_
    refine wl_pure Tryz.hT rfl rfl rfl ?_
    refine wl_pure Tryz.hT rfl rfl rfl ?_
    refine wl_pure Tryz.hT rfl rfl rfl ?_
    refine wl_cvA (k := .u64) (kt := .i64) (by kernel_rfl) (by kernel_rfl) rfl rfl rfl rfl ?_
    refine wl_upd 10 (.int .u64 ((2 : Nat) : Int)) rfl rfl ?_
    refine wl_call1 (capt := []) rfl rfl rfl rfl rfl rfl (by kernel_rfl) (fun W _ => len_gives 2 (by omega) W) ?_
    refine wl_pure Tryz.hT rfl rfl rfl ?_
    refine wl_callN (X := Unit) (val := fun _ => .tuple #[]) (Φ := fun _ => True) (capt := []) 1 (B := ⟨g, 119, pre ++ ([slv p1 m1 c1, slv p2 m2 c2, slv q1 n1 d1, slv q2 n2 d2] ++ junk), true, none⟩) (L1 := []) (L2 := []) (b := g) (ob := .cells (pre ++ ([slv p1 m1 c1, slv p2 m2 c2, slv q1 n1 d1, slv q2 n2 d2] ++ junk)).toArray 119 (0, 0)) (fun _ => ⟨g, 119, pre ++ (ord2 c [slv p1 m1 c1, slv p2 m2 c2] [slv q1 n1 d1, slv q2 n2 d2] ++ junk), true, none⟩) (g' := fun _ => g) (o' := fun _ => .cells (pre ++ (ord2 c [slv p1 m1 c1, slv p2 m2 c2] [slv q1 n1 d1, slv q2 n2 d2] ++ junk)).toArray 119 (0, 0))
      rfl rfl rfl rfl rfl rfl (by kernel_rfl) rfl rfl (fun _ _ => rfl) (fun W1 hp => pdq2_gives W1 g off cap pre junk p1 p2 q1 q2 m1 m2 n1 n2 c1 c2 d1 d2 c _ hoff (hp.own.cell 1 _ rfl (g, .cells (pre ++ ([slv p1 m1 c1, slv p2 m2 c2, slv q1 n1 d1, slv q2 n2 d2] ++ junk)).toArray 119 (0, 0)) (List.mem_cons_self ..)).1 (fun W2 hk => hf W2 ((keep_of hg ⟨_, List.mem_cons_self ..⟩ hp).trans hk))) (fun _ _ => ?_)
    refine wl_nil ?_
    refine ne_end0 (X := Unit) (val := fun _ => .tuple #[]) (Φ := fun _ => True) (nb := fun _ => [grpB (othersL W g), ⟨g, 119, pre ++ (ord2 c [slv p1 m1 c1, slv p2 m2 c2] [(slv q1 n1 d1), (slv q2 n2 d2)] ++ junk), true, none⟩]) (fn := Tryz.f93) Tryz.hT rfl () rfl trivial fun W1 hp => ?_
    exact (hp.pick (l := [grpB (othersL W g), ⟨g, 119, pre ++ (ord2 c [slv p1 m1 c1, slv p2 m2 c2] [(slv q1 n1 d1), (slv q2 n2 d2)] ++ junk), true, none⟩]) [0, 1] (by decide) rfl).own
  refine key.mono ?_
  rintro e W' ⟨x, he, _, hb, hn'⟩
  exact ⟨x, he, trivial, near_of hg rfl hb hn'⟩
end Go.Proofs.YtnpfkmbcejgnjaaGreatDoor
