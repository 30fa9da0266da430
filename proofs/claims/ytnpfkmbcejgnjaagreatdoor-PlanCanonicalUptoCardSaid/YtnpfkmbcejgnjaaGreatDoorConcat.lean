/-
  slices.Grow of nil; slices.Concat of rings.
-/
import Derived.Test.YtnpfkmbcejgnjaaGreatDoorRings
namespace Go.Proofs.YtnpfkmbcejgnjaaGreatDoor
open Go Go.RowKit Go.Am
set_option maxRecDepth 10000
-- BOXES 3
theorem grow_gives (W : World) (m : Nat) (hm : m < 1099511627776) : CallsR Tryz.prog 95 #[.slice none 0 0, .int .i64 (m : Nat)] W (fun V : Vec => V.val 0) (fun V => V.OK 7 0 [] ∧ (0 < m → V.p ≠ none)) (fun V => [V.bx 42 []]) := by
  refine calls_enter (args := [.slice none 0 0, .int .i64 (m : Nat)]) Tryz.func95 rfl rfl rfl ?_
  refine zA ?_
  refine zB ?_
  refine wl_pure Tryz.hT rfl rfl rfl ?_
  refine wl_nil ?_
  refine zE ?_
  refine zA ?_
  refine zA ?_
  refine zB ?_
  refine wl_pure Tryz.hT rfl rfl rfl ?_
  refine wl_pure Tryz.hT rfl rfl rfl ?_
  refine wl_nil ?_
  refine zE ?_
  refine zS rfl ?_
  refine zI ?_
  refine zE ?_
  refine zA ?_
  refine zA ?_
  refine zB ?_
  refine wl_pure Tryz.hT rfl rfl rfl ?_
  refine wl_pure Tryz.hT rfl rfl rfl ?_
  refine wl_pure Tryz.hT rfl rfl rfl ?_
  refine wl_pure Tryz.hT rfl rfl rfl ?_
  refine wl_pure Tryz.hT rfl rfl rfl ?_
  refine wl_pure Tryz.hT rfl rfl rfl ?_
  refine wl_pure Tryz.hT rfl rfl rfl ?_
  refine wl_pure Tryz.hT rfl rfl rfl ?_
  refine wl_nil ?_
  refine zE ?_
  refine zA ?_
  refine zB ?_
  refine wl_pure Tryz.hT rfl rfl rfl ?_
  refine wl_pure Tryz.hT rfl rfl rfl ?_
  refine wl_nil ?_
  refine zE ?_
  have e14 : w64 ((m : Int) - w64 (0 - 0)) = m := by
    have : w64 (0 - 0) = 0 := rfl
    rw [this]; exact (w64_id (by omega) (by omega)).trans (by omega)
  refine wc_upd 16 _ rfl (show Value.bool (decide (w64 ((m : Int) - w64 (0 - 0)) > 0)) = .bool (decide (0 < m)) by rw [e14]; congr 1; simp) ?_
  refine wc_cond rfl (fun h => ?_) (fun h => ?_)
  · have h : 0 < m := by simpa using h
    refine zB ?_
    refine wl_pure Tryz.hT rfl rfl rfl ?_
    refine wl_pure Tryz.hT rfl rfl rfl ?_
    refine wl_pure Tryz.hT rfl rfl rfl ?_
    refine wl_slice_h 0 Tryz.hT rfl rfl rfl rfl rfl rfl rfl rfl (Nat.le_refl _) ?_
    refine wl_pure Tryz.hT rfl rfl rfl ?_
    refine wl_appendZeros Tryz.vec27 (ku := .i64) (by kernel_rfl) m rfl rfl rfl rfl rfl rfl rfl rfl e14 h (by simp only [maxLen]; omega) (by omega) ?_
    intro V hV hp hj
    refine wl_pure Tryz.hT rfl rfl rfl ?_
    refine wl_pure Tryz.hT rfl rfl rfl ?_
    obtain ⟨p, cap, junk⟩ := V
    cases p with
    | none => exact absurd rfl hp
    | some g =>
    refine wl_slice_h (a := some ⟨g, 0, none⟩) (len := m) (cap := cap) 0 Tryz.hT rfl rfl rfl rfl rfl rfl rfl rfl (Nat.zero_le _) ?_
    refine wl_pure Tryz.hT rfl rfl rfl ?_
    refine wl_nil ?_
    refine zE ?_
    refine zA ?_
    refine zB ?_
    refine wl_pure Tryz.hT rfl rfl rfl ?_
    refine wl_pure Tryz.hT rfl rfl rfl ?_
    refine wl_nil ?_
    refine zE ?_
    refine zO ?_
    obtain ⟨h1, h2, h3⟩ := hV.cap (by simp)
    refine ne_ret1 Tryz.hT rfl (.tmp rfl) (⟨some g, cap, repL [.int .i64 0, .int .i64 0, .int .i64 0, .int .i64 0, .bool false, .int .i64 0, .int .i64 0] m ++ junk⟩ : Vec) rfl ⟨⟨rfl, (fun h => by cases h), fun _ => ⟨Nat.zero_le _, h2, ?_⟩⟩, fun _ => by simp⟩ fun W hp => NewBx.of_hp1 hp 0 rfl
    show 0 + (repL _ m ++ junk).length = cap * 7
    rw [List.length_append, Nat.zero_add]
    exact h3
  · have h : m = 0 := by simp at h; omega
    subst h
    refine zI ?_
    refine zE ?_
    refine zA ?_
    refine zB ?_
    refine wl_pure Tryz.hT rfl rfl rfl ?_
    refine wl_pure Tryz.hT rfl rfl rfl ?_
    refine wl_nil ?_
    refine zE ?_
    refine zO ?_
    exact ne_ret1 Tryz.hT rfl (.tmp rfl) Vec.empty rfl ⟨Vec.OK.empty 7, fun h => absurd h (Nat.lt_irrefl _)⟩ fun W hp => Own.one (fun p hp => by cases hp) List.nodup_nil
/-- The cells of sides in a row. -/
def cellsOf (l : List Sd) : List Value := l.flatMap Sd.cells
theorem cellsOf_append (l m : List Sd) : cellsOf (l ++ m) = cellsOf l ++ cellsOf m := List.flatMap_append
theorem cellsOf_length : ∀ l : List Sd, (cellsOf l).length = l.length * 7
  | [] => rfl
  | s :: l => by
    show (s.cells ++ cellsOf l).length = _
    rw [List.length_append, cellsOf_length l, List.length_cons]
    show 7 + l.length * 7 = (l.length + 1) * 7
    omega
theorem cellsOf_get : ∀ (l : List Sd) (i : Nat) (s : Sd), l[i]? = some s → ∀ j, j < 7 → (cellsOf l)[i * 7 + j]? = s.cells[j]?
  | [], i, s, h, _, _ => by simp at h
  | t :: l, 0, s, h, j, hj => by
    obtain rfl : t = s := by simpa using h
    show (t.cells ++ cellsOf l)[0 * 7 + j]? = _
    rw [Nat.zero_mul, Nat.zero_add, List.getElem?_append_left (show j < t.cells.length from hj)]
  | t :: l, i + 1, s, h, j, hj => by
    show (t.cells ++ cellsOf l)[(i + 1) * 7 + j]? = _
    rw [List.getElem?_append_right (show t.cells.length ≤ (i + 1) * 7 + j by show 7 ≤ _; omega)]
    show (cellsOf l)[(i + 1) * 7 + j - 7]? = _
    rw [show (i + 1) * 7 + j - 7 = i * 7 + j by omega]
    exact cellsOf_get l i s (by simpa using h) j hj
theorem cellsOf_one : ∀ l : List Sd, ∀ u ∈ cellsOf l, u.oneCell' = true := fun l u hu => by
  obtain ⟨s, _, h⟩ := List.mem_flatMap.1 hu
  simp at h
  rcases h with rfl | rfl | rfl | rfl | rfl | rfl | rfl <;> rfl
/-- A ring of sides in a row of known cells. -/
theorem RingAt.of_cells {W : World} {b off : Nat} {l : List Sd} (hlt : b < W.heap.size) (h : ∀ j u, (cellsOf l)[j]? = some u → W.cell? ⟨b, off + j, none⟩ = some u) : RingAt W b off l := by
  refine ⟨fun i s hs => ⟨hlt, fun j u hj => ?_⟩⟩
  have hj' : j < 7 := (List.getElem?_eq_some_iff.1 hj).1
  have h1 := cellsOf_get l i s hs j hj'
  rw [hj] at h1
  rw [Nat.add_assoc]
  exact h _ _ h1
theorem RingAt.cells {W : World} {b off : Nat} {l : List Sd} (h : RingAt W b off l) : ∀ j u, (cellsOf l)[j]? = some u → W.cell? ⟨b, off + j, none⟩ = some u := by
  intro j u hj
  have hlt : j < l.length * 7 := by rw [← cellsOf_length]; exact (List.getElem?_eq_some_iff.1 hj).1
  have hi : j / 7 < l.length := by omega
  have h1 := cellsOf_get l (j / 7) _ (List.getElem?_eq_getElem hi) (j % 7) (Nat.mod_lt _ (by omega))
  have e : j / 7 * 7 + j % 7 = j := by omega
  rw [e, hj] at h1
  have h2 := (h.get (j / 7) _ (List.getElem?_eq_getElem hi)).get (j % 7) u h1.symm
  rw [Nat.add_assoc, e] at h2
  exact h2
/-- A vector of sides is a ring in memory. -/
theorem Vec.ring {V : Vec} {l : List Sd} (hV : V.OK 7 l.length (cellsOf l)) : ∃ p cap, V.val l.length = slv p l.length cap ∧ ∀ {W0 W : World} {bxs : List Bx}, Hp W0 bxs W → ∀ k, nth bxs k = some (V.bx 42 (cellsOf l)) → RingP W p l := by
  obtain ⟨p, cap, junk⟩ := V
  cases p with
  | none =>
    have h0 := hV.nil rfl
    refine ⟨none, 0, by rw [h0]; rfl, fun _ _ _ => .inl (List.length_eq_zero_iff.1 h0)⟩
  | some g =>
    refine ⟨some ⟨g, 0, none⟩, cap, rfl, fun hp k hk => .inr ⟨g, 0, rfl, RingAt.of_cells (RowAt.of_bx hp k hk rfl).lt fun j u hj => ?_⟩⟩
    refine (RowAt.of_bx hp k hk rfl).get j u ?_
    show (cellsOf l ++ junk)[j]? = some u
    rw [List.getElem?_append_left (List.getElem?_eq_some_iff.1 hj).1]
    exact hj
def tot (rs : List (List Sd)) : Nat := (rs.map List.length).sum
theorem flat_len (rs : List (List Sd)) : rs.flatten.length = tot rs := by simp [tot, List.length_flatten]
theorem take_flat {rs : List (List Sd)} {k : Nat} (hk : k < rs.length) : (rs.take (k + 1)).flatten = (rs.take k).flatten ++ rg rs k := by
  rw [List.take_add_one, rg_get hk]; simp
theorem tot_take_le (rs : List (List Sd)) (k : Nat) : tot (rs.take k) ≤ tot rs := by
  conv => rhs; rw [← List.take_append_drop k rs]
  unfold tot
  rw [List.map_append, List.sum_append]; omega
theorem tot_take_succ {rs : List (List Sd)} {k : Nat} (hk : k < rs.length) : tot (rs.take (k + 1)) = tot (rs.take k) + (rg rs k).length := by
  rw [← flat_len, ← flat_len, take_flat hk, List.length_append]
set_option maxHeartbeats 4000000 in
theorem concat_gives (W : World) (p : Option Addr) (cap : Nat) (rs : List (List Sd)) (hn : rs.length < 4611686018427387904) (hT : tot rs < 1099511627776) (hR : RingsP W p rs) (hne : ∀ l ∈ rs, l ≠ []) :
    CallsR Tryz.prog 39 #[slv p rs.length cap] W (fun V : Vec => V.val rs.flatten.length) (fun V => V.OK 7 rs.flatten.length (cellsOf rs.flatten)) (fun V => [V.bx 42 (cellsOf rs.flatten)]) := by
  refine calls_enter (args := [slv p rs.length cap]) Tryz.func39 rfl rfl rfl ?_
  refine zA ?_
  refine zB ?_
  refine wl_pure Tryz.hT rfl rfl rfl ?_
  refine wl_nil ?_
  refine zE ?_
  refine zA ?_
  refine zB ?_
  refine wl_pure Tryz.hT rfl rfl rfl ?_
  refine wl_nil ?_
  refine zE ?_
  refine zA ?_
  refine zA ?_
  refine zB ?_
  refine wl_pure Tryz.hT rfl rfl rfl ?_
  refine wl_pure Tryz.hT rfl rfl rfl ?_
  refine wl_pure Tryz.hT rfl rfl rfl ?_
  refine wl_nil ?_
  refine zE ?_
  refine zH ?_
  refine wc_loop (X := Nat) (fun k => [(0, slv p rs.length cap), (3, .int .i64 (tot (rs.take k) : Nat)), (9, slv p rs.length cap), (10, .int .i64 (rs.length : Nat)), (11, .int .i64 (k : Nat))]) (fun _ => [])
    (fun k => k ≤ rs.length) (fun k => rs.length - k) 0 (Nat.zero_le _) ⟨rfl, rfl, rfl, rfl, rfl, trivial⟩ [] rfl ?_
  intro k hk
  refine zA ?_
  refine zB ?_
  refine wl_pure Tryz.hT rfl rfl rfl ?_
  refine wl_nil ?_
  refine zE ?_
  refine zA ?_
  refine wc_cond rfl (fun h => ?_) (fun h => ?_)
  · have hk : k < rs.length := by simp at h; omega
    clear h
    obtain ⟨b, off, rfl, hrow⟩ := hR.row hk
    obtain ⟨q, cap2, hq1, hq2⟩ := hrow k hk
    refine zI ?_
    refine zE ?_
    refine zA ?_
    refine zH ?_
    refine zA ?_
    refine zB ?_
    refine wl_indexAddr Tryz.hT rfl rfl rfl rfl rfl rfl rfl (by omega) (by omega) ?_
    refine wl_load rfl rfl rfl rfl (fun W hp => RowAt.load 0 Tryz.hT rfl ((fun W hp => hq1.hp hp) W hp) rfl) ?_
    refine wl_pure Tryz.hT rfl rfl rfl ?_
    refine wl_nil ?_
    refine zE ?_
    refine zA ?_
    refine zB ?_
    refine wl_pure Tryz.hT rfl rfl rfl ?_
    refine wl_pure Tryz.hT rfl rfl rfl ?_
    refine wl_pure Tryz.hT rfl rfl rfl ?_
    refine wl_pure Tryz.hT rfl rfl rfl ?_
    refine wl_pure Tryz.hT rfl rfl rfl ?_
    refine wl_nil ?_
    have hs : w64 ((tot (rs.take k) : Nat) + ((rg rs k).length : Nat)) = (tot (rs.take (k + 1)) : Nat) := by
      have h1 := tot_take_succ hk
      have h2 := tot_take_le rs (k + 1)
      rw [w64_id (by omega) (by omega)]; omega
    refine zE ?_
    refine zA ?_
    refine zB ?_
    refine wl_upd 3 _ rfl (congrArg (Value.int .i64) hs) ?_
    refine wl_pure Tryz.hT rfl rfl rfl ?_
    refine wl_pure Tryz.hT rfl rfl rfl ?_
    refine wl_nil ?_
    refine zE ?_
    refine zS rfl ?_
    refine zI ?_
    refine zN ?_
    refine zE ?_
    refine zB ?_
    refine wl_pure Tryz.hT rfl rfl rfl ?_
    refine wl_pure Tryz.hT rfl rfl rfl ?_
    refine wl_nil ?_
    exact ne_loop (k + 1) hk (by omega) ⟨rfl, rfl, rfl, rfl, congrArg (fun z => some (Value.int .i64 z)) (wrap_id (x := (k : Int) + 1) (by omega) (by omega)), trivial⟩ [] rfl
  · have e : k = rs.length := by simp at h; omega
    subst e
    clear h
    rw [List.take_length]
    refine zJ ?_
    refine zK ?_
    refine zK ?_
    refine zL ?_
    refine zE ?_
    refine zA ?_
    refine zB ?_
    refine wl_pure Tryz.hT rfl rfl rfl ?_
    refine wl_call (X := Vec) rfl rfl rfl rfl rfl rfl (by kernel_rfl) (fun W _ => grow_gives W (tot rs) hT) ?_
    rintro V0 ⟨hV0, hV0p⟩
    refine wl_pure Tryz.hT rfl rfl rfl ?_
    refine wl_nil ?_
    refine zE ?_
    refine zA ?_
    refine zA ?_
    refine zB ?_
    refine wl_pure Tryz.hT rfl rfl rfl ?_
    refine wl_pure Tryz.hT rfl rfl rfl ?_
    refine wl_pure Tryz.hT rfl rfl rfl ?_
    refine wl_nil ?_
    refine zE ?_
    refine zH ?_
    refine wc_loop (X := Nat × Vec) (fun x => [(6, x.2.val (tot (rs.take x.1))), (25, slv p rs.length cap), (26, .int .i64 (rs.length : Nat)), (27, .int .i64 (x.1 : Nat))]) (fun x => [x.2.bx 42 (cellsOf (rs.take x.1).flatten)])
      (fun x => x.1 ≤ rs.length ∧ x.2.OK 7 (tot (rs.take x.1)) (cellsOf (rs.take x.1).flatten)) (fun x => rs.length - x.1) (0, V0) ⟨Nat.zero_le _, hV0⟩ ⟨rfl, rfl, rfl, rfl, trivial⟩ [] rfl ?_
    rintro ⟨k, V⟩ ⟨hk, hV⟩
    refine zA ?_
    refine zB ?_
    refine wl_pure Tryz.hT rfl rfl rfl ?_
    refine wl_nil ?_
    refine zE ?_
    refine zA ?_
    refine wc_cond rfl (fun h => ?_) (fun h => ?_)
    · have hk : k < rs.length := by simp at h; omega
      clear h
      obtain ⟨b, off, rfl, hrow⟩ := hR.row hk
      obtain ⟨q, cap2, hq1, hq2⟩ := hrow k hk
      refine zI ?_
      refine zE ?_
      refine zA ?_
      refine zH ?_
      refine zA ?_
      refine zB ?_
      refine wl_indexAddr Tryz.hT rfl rfl rfl rfl rfl rfl rfl (by omega) (by omega) ?_
      refine wl_load rfl rfl rfl rfl (fun W hp => RowAt.load 0 Tryz.hT rfl ((fun W hp => hq1.hp hp) W hp) rfl) ?_
      refine wl_pure Tryz.hT rfl rfl rfl ?_
      refine wl_nil ?_
      refine zE ?_
      refine zB ?_
      refine wl_pure Tryz.hT rfl rfl rfl ?_
      refine wl_pure Tryz.hT rfl rfl rfl ?_
      obtain ⟨b2, off2, rfl, hRk⟩ : ∃ b off, q = some ⟨b, off, none⟩ ∧ RingAt W b off (rg rs k) := by
        rcases hq2 with h | h
        · exact absurd h (hne _ (List.mem_of_getElem? (rg_get hk)))
        · exact h
      have h1 := tot_take_succ hk
      have h2 := tot_take_le rs (k + 1)
      refine wl_append (len := tot (rs.take k)) 0 Tryz.vec27 rfl rfl rfl rfl rfl rfl rfl rfl rfl hV (cellsOf_length (rg rs k)) (fun W hp j u hj => ?_) (cellsOf_one _) (by simp only [maxLen]; omega) (by omega) ?_
      · have hR' : RingP W (some ⟨b2, off2, none⟩) (rg rs k) := RingP.hp (.inr ⟨b2, off2, rfl, hRk⟩) hp
        rcases hR' with h | ⟨b3, off3, e, hR'⟩
        · exact absurd h (hne _ (List.mem_of_getElem? (rg_get hk)))
        · cases e
          rw [Addr.add_none]
          exact hR'.cells j u hj
      intro V' hV' _
      have e3 : cellsOf (rs.take k).flatten ++ cellsOf (rg rs k) = cellsOf (rs.take (k + 1)).flatten := by rw [take_flat hk, cellsOf_append]
      rw [e3, ← h1] at hV'
      rw [e3, ← h1]
      refine wl_pure Tryz.hT rfl rfl rfl ?_
      refine wl_nil ?_
      refine zN ?_
      refine zE ?_
      refine zB ?_
      refine wl_pure Tryz.hT rfl rfl rfl ?_
      refine wl_pure Tryz.hT rfl rfl rfl ?_
      refine wl_nil ?_
      exact ne_loop (k + 1, V') ⟨hk, hV'⟩ (by show rs.length - (k + 1) < rs.length - k; omega) ⟨rfl, rfl, rfl, congrArg (fun z => some (Value.int .i64 z)) (wrap_id (x := (k : Int) + 1) (by omega) (by omega)), trivial⟩ [] rfl
    · have e : k = rs.length := by simp at h; omega
      subst e
      rw [List.take_length] at hV
      rw [List.take_length]
      refine zJ ?_
      refine zK ?_
      refine zK ?_
      refine zL ?_
      refine zE ?_
      refine zA ?_
      refine zB ?_
      refine wl_pure Tryz.hT rfl rfl rfl ?_
      refine wl_pure Tryz.hT rfl rfl rfl ?_
      refine wl_nil ?_
      refine zE ?_
      refine zO ?_
      refine ne_ret1 Tryz.hT rfl (.tmp rfl) V (by rw [flat_len]) (by rw [flat_len]; exact hV) fun W hp => NewBx.of_hp1 hp 0 rfl
end Go.Proofs.YtnpfkmbcejgnjaaGreatDoor
