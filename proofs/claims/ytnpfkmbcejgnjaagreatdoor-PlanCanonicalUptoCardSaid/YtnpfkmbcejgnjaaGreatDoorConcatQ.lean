/-
  slices.Concat of rings, perhaps some of them empty.
-/
import Derived.Test.YtnpfkmbcejgnjaaGreatDoorConcat
namespace Go.Proofs.YtnpfkmbcejgnjaaGreatDoor
open Go Go.RowKit Go.Am
set_option maxRecDepth 10000
-- BOXES 3
set_option maxHeartbeats 4000000 in
theorem concatQ_gives (W : World) (b off : Nat) (cap : Nat) (rs : List (List Sd)) (hn : rs.length < 4611686018427387904) (hT : tot rs < 1099511627776) (hrow : ∀ k, k < rs.length → ∃ b2 off2 cap2, RowAt W b (off + k * 1) [slv (some ⟨b2, off2, none⟩) (rg rs k).length cap2] ∧ RingAt W b2 off2 (rg rs k)) :
    CallsR Tryz.prog 39 #[slv (some ⟨b, off, none⟩) rs.length cap] W (fun V : Vec => V.val rs.flatten.length) (fun V => V.OK 7 rs.flatten.length (cellsOf rs.flatten)) (fun V => [V.bx 42 (cellsOf rs.flatten)]) := by
  refine calls_enter (args := [slv (some ⟨b, off, none⟩) rs.length cap]) Tryz.func39 rfl rfl rfl ?_
  refine zA ?_
  refine zB ?_
  refine wl_pure Tryz.hT rfl rfl rfl ?_
  refine wl_nil ?_
  refine zE ?_
  refine zA ?_
  refine zB ?_
  refine wl_pure Tryz.hT rfl rfl rfl ?_
  refine wl_nil ?_
  refine zE ?_
  refine zA ?_
  refine zA ?_
  refine zB ?_
  refine wl_pure Tryz.hT rfl rfl rfl ?_
  refine wl_pure Tryz.hT rfl rfl rfl ?_
  refine wl_pure Tryz.hT rfl rfl rfl ?_
  refine wl_nil ?_
  refine zE ?_
  refine zH ?_
  refine wc_loop (X := Nat) (fun k => [(0, slv (some ⟨b, off, none⟩) rs.length cap), (3, .int .i64 (tot (rs.take k) : Nat)), (9, slv (some ⟨b, off, none⟩) rs.length cap), (10, .int .i64 (rs.length : Nat)), (11, .int .i64 (k : Nat))]) (fun _ => [])
    (fun k => k ≤ rs.length) (fun k => rs.length - k) 0 (Nat.zero_le _) ⟨rfl, rfl, rfl, rfl, rfl, trivial⟩ [] rfl ?_
  intro k hk
  refine zA ?_
  refine zB ?_
  refine wl_pure Tryz.hT rfl rfl rfl ?_
  refine wl_nil ?_
  refine zE ?_
  refine zA ?_
  refine wc_cond rfl (fun h => ?_) (fun h => ?_)
  · have hk : k < rs.length := by simp at h; omega
    clear h
    obtain ⟨b2, off2, cap2, hq1, hRk⟩ := hrow k hk
    refine zI ?_
    refine zE ?_
    refine zA ?_
    refine zH ?_
    refine zA ?_
    refine zB ?_
    refine wl_indexAddr Tryz.hT rfl rfl rfl rfl rfl rfl rfl (by omega) (by omega) ?_
    refine wl_load rfl rfl rfl rfl (fun W hp => RowAt.load 0 Tryz.hT rfl ((fun W hp => hq1.hp hp) W hp) rfl) ?_
    refine wl_pure Tryz.hT rfl rfl rfl ?_
    refine wl_nil ?_
    refine zE ?_
    refine zA ?_
    refine zB ?_
    refine wl_pure Tryz.hT rfl rfl rfl ?_
    refine wl_pure Tryz.hT rfl rfl rfl ?_
    refine wl_pure Tryz.hT rfl rfl rfl ?_
    refine wl_pure Tryz.hT rfl rfl rfl ?_
    refine wl_pure Tryz.hT rfl rfl rfl ?_
    refine wl_nil ?_
    have hs : w64 ((tot (rs.take k) : Nat) + ((rg rs k).length : Nat)) = (tot (rs.take (k + 1)) : Nat) := by
      have h1 := tot_take_succ hk
      have h2 := tot_take_le rs (k + 1)
      rw [w64_id (by omega) (by omega)]; omega
    refine zE ?_
    refine zA ?_
    refine zB ?_
    refine wl_upd 3 _ rfl (congrArg (Value.int .i64) hs) ?_
    refine wl_pure Tryz.hT rfl rfl rfl ?_
    refine wl_pure Tryz.hT rfl rfl rfl ?_
    refine wl_nil ?_
    refine zE ?_
    refine zS rfl ?_
    refine zI ?_
    refine zN ?_
    refine zE ?_
    refine zB ?_
    refine wl_pure Tryz.hT rfl rfl rfl ?_
    refine wl_pure Tryz.hT rfl rfl rfl ?_
    refine wl_nil ?_
    exact ne_loop (k + 1) hk (by omega) ⟨rfl, rfl, rfl, rfl, congrArg (fun z => some (Value.int .i64 z)) (wrap_id (x := (k : Int) + 1) (by omega) (by omega)), trivial⟩ [] rfl
  · have e : k = rs.length := by simp at h; omega
    subst e
    clear h
    rw [List.take_length]
    refine zJ ?_
    refine zK ?_
    refine zK ?_
    refine zL ?_
    refine zE ?_
    refine zA ?_
    refine zB ?_
    refine wl_pure Tryz.hT rfl rfl rfl ?_
    refine wl_call (X := Vec) rfl rfl rfl rfl rfl rfl (by kernel_rfl) (fun W _ => grow_gives W (tot rs) hT) ?_
    rintro V0 ⟨hV0, hV0p⟩
    refine wl_pure Tryz.hT rfl rfl rfl ?_
    refine wl_nil ?_
    refine zE ?_
    refine zA ?_
    refine zA ?_
    refine zB ?_
    refine wl_pure Tryz.hT rfl rfl rfl ?_
    refine wl_pure Tryz.hT rfl rfl rfl ?_
    refine wl_pure Tryz.hT rfl rfl rfl ?_
    refine wl_nil ?_
    refine zE ?_
    refine zH ?_
    refine wc_loop (X := Nat × Vec) (fun x => [(6, x.2.val (tot (rs.take x.1))), (25, slv (some ⟨b, off, none⟩) rs.length cap), (26, .int .i64 (rs.length : Nat)), (27, .int .i64 (x.1 : Nat))]) (fun x => [x.2.bx 42 (cellsOf (rs.take x.1).flatten)])
      (fun x => x.1 ≤ rs.length ∧ x.2.OK 7 (tot (rs.take x.1)) (cellsOf (rs.take x.1).flatten)) (fun x => rs.length - x.1) (0, V0) ⟨Nat.zero_le _, hV0⟩ ⟨rfl, rfl, rfl, rfl, trivial⟩ [] rfl ?_
    rintro ⟨k, V⟩ ⟨hk, hV⟩
    refine zA ?_
    refine zB ?_
    refine wl_pure Tryz.hT rfl rfl rfl ?_
    refine wl_nil ?_
    refine zE ?_
    refine zA ?_
    refine wc_cond rfl (fun h => ?_) (fun h => ?_)
    · have hk : k < rs.length := by simp at h; omega
      clear h
      obtain ⟨b2, off2, cap2, hq1, hRk⟩ := hrow k hk
      refine zI ?_
      refine zE ?_
      refine zA ?_
      refine zH ?_
      refine zA ?_
      refine zB ?_
      refine wl_indexAddr Tryz.hT rfl rfl rfl rfl rfl rfl rfl (by omega) (by omega) ?_
      refine wl_load rfl rfl rfl rfl (fun W hp => RowAt.load 0 Tryz.hT rfl ((fun W hp => hq1.hp hp) W hp) rfl) ?_
      refine wl_pure Tryz.hT rfl rfl rfl ?_
      refine wl_nil ?_
      refine zE ?_
      refine zB ?_
      refine wl_pure Tryz.hT rfl rfl rfl ?_
      refine wl_pure Tryz.hT rfl rfl rfl ?_
      have h1 := tot_take_succ hk
      have h2 := tot_take_le rs (k + 1)
      refine wl_append (len := tot (rs.take k)) 0 Tryz.vec27 rfl rfl rfl rfl rfl rfl rfl rfl rfl hV (cellsOf_length (rg rs k)) (fun W hp j u hj => ?_) (cellsOf_one _) (by simp only [maxLen]; omega) (by omega) ?_
      · rw [Addr.add_none]
        exact (RingAt.cells ⟨fun i s hs => (hRk.get i s hs).hp hp⟩) j u hj
      intro V' hV' _
      have e3 : cellsOf (rs.take k).flatten ++ cellsOf (rg rs k) = cellsOf (rs.take (k + 1)).flatten := by rw [take_flat hk, cellsOf_append]
      rw [e3, ← h1] at hV'
      rw [e3, ← h1]
      refine wl_pure Tryz.hT rfl rfl rfl ?_
      refine wl_nil ?_
      refine zN ?_
      refine zE ?_
      refine zB ?_
      refine wl_pure Tryz.hT rfl rfl rfl ?_
      refine wl_pure Tryz.hT rfl rfl rfl ?_
      refine wl_nil ?_
      exact ne_loop (k + 1, V') ⟨hk, hV'⟩ (by show rs.length - (k + 1) < rs.length - k; omega) ⟨rfl, rfl, rfl, congrArg (fun z => some (Value.int .i64 z)) (wrap_id (x := (k : Int) + 1) (by omega) (by omega)), trivial⟩ [] rfl
    · have e : k = rs.length := by simp at h; omega
      subst e
      rw [List.take_length] at hV
      rw [List.take_length]
      refine zJ ?_
      refine zK ?_
      refine zK ?_
      refine zL ?_
      refine zE ?_
      refine zA ?_
      refine zB ?_
      refine wl_pure Tryz.hT rfl rfl rfl ?_
      refine wl_pure Tryz.hT rfl rfl rfl ?_
      refine wl_nil ?_
      refine zE ?_
      refine zO ?_
      refine ne_ret1 Tryz.hT rfl (.tmp rfl) V (by rw [flat_len]) (by rw [flat_len]; exact hV) fun W hp => NewBx.of_hp1 hp 0 rfl
end Go.Proofs.YtnpfkmbcejgnjaaGreatDoor
