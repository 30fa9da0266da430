/-
  The reference: why a plan is not valid; where a side is.
-/
import Derived.Test.YtnpfkmbcejgnjaaGreatDoorRef3
import Derived.Test.YtnpfkmbcejgnjaaGreatDoorRef4
namespace Go.Proofs.YtnpfkmbcejgnjaaGreatDoor
open Go Go.RowKit Go.Am
set_option maxRecDepth 10000
-- BOXES 1
/-- Why a plan is not valid, as the reference asks. -/
def chkR (rs : List (List Sd)) : Int :=
  if rs.any (fun l => l.length == 0) = true then 5
  else if tot rs = 0 then 5
  else if tot rs > 24 then 4
  else if rs.flatten.any (fun s => !rgd s) = true then 2
  else if rs.any (fun l => !shpR l) = true then 14
  else if crs rs = true then 15
  else if (!plcR rs || !jndR rs) = true then 14
  else 0
set_option maxHeartbeats 8000000 in
theorem checkR_gives (W : World) (p : Option Addr) (cap : Nat) (rs : List (List Sd)) (hn : rs.length < 4611686018427387904) (hT : tot rs < 1099511627776) (hR : RingsP W p rs) :
    CallsR Tryz.prog 24 #[planV p rs.length cap] W (fun _ : Unit => .int .i64 (chkR rs)) (fun _ => True) (fun _ => []) := by
  have hl : ∀ l ∈ rs, l.length < 4611686018427387904 := fun l h => by have := len_le_tot h; omega
  refine calls_enter (args := [planV p rs.length cap]) Tryz.func24 rfl rfl rfl ?_
  refine zA ?_
  refine zB ?_
  (refine wl_box rfl rfl rfl rfl ?_; intro)
  refine wl_pure Tryz.hT rfl rfl rfl ?_
  refine wl_nil ?_
  rename_i b1
  refine zE ?_
  refine zA ?_
  refine zA ?_
  refine zB ?_
  refine wl_pure Tryz.hT rfl rfl rfl ?_
  refine wl_loadBx 0 Tryz.hT rfl rfl rfl rfl rfl rfl rfl rfl ?_
  refine wl_pure Tryz.hT rfl rfl rfl ?_
  refine wl_pure Tryz.hT rfl rfl rfl ?_
  refine wl_nil ?_
  refine zE ?_
  refine wc_cond rfl (fun h => ?_) (fun h => ?_)
  · refine zA ?_
    refine zB ?_
    refine wl_pure Tryz.hT rfl rfl rfl ?_
    refine wl_nil ?_
    refine zE ?_
    refine zO ?_
    refine zP ?_
    have h0 : rs = [] := by have h' : (((rs.length : Nat) : Int) == 0) = true := h; rw [beq_iff_eq] at h'; exact List.length_eq_zero_iff.1 (by omega)
    exact ne_ret1 Tryz.hT rfl (.tmp rfl) () (by subst h0; rfl) trivial fun W _ => NewBx.nil _ _
  have hpos : 0 < rs.length := by have h' : (((rs.length : Nat) : Int) == 0) = false := h; rw [beq_eq_false_iff_ne] at h'; omega
  clear h
  obtain ⟨b, off, rfl, hrow⟩ := hR.row hpos
  refine zI ?_
  refine zE ?_
  refine zA ?_
  refine zB ?_
  refine wl_pure Tryz.hT rfl rfl rfl ?_
  refine wl_nil ?_
  refine zE ?_
  refine zA ?_
  refine zA ?_
  refine zB ?_
  refine wl_pure Tryz.hT rfl rfl rfl ?_
  refine wl_nil ?_
  refine zE ?_
  refine zH ?_
  refine wc_loop (X := Nat) (fun k => [(1, .pointer (some ⟨b1, 0, none⟩)), (3, .int .i64 (tot (rs.take k) : Nat)), (4, .int .i64 (k : Nat))]) (fun _ => [⟨b1, 24, [slv (some ⟨b, off, none⟩) rs.length cap], true, none⟩])
    (fun k => k ≤ rs.length ∧ ∀ j, j < k → (rg rs j).length ≠ 0) (fun k => rs.length - k) 0 ⟨Nat.zero_le _, fun j hj => absurd hj (Nat.not_lt_zero _)⟩ ⟨rfl, rfl, rfl, trivial⟩ [] rfl ?_
  rintro k ⟨hk, hok⟩
  refine zA ?_
  refine zA ?_
  refine zB ?_
  refine wl_pure Tryz.hT rfl rfl rfl ?_
  refine wl_pure Tryz.hT rfl rfl rfl ?_
  refine wl_loadBx 0 Tryz.hT rfl rfl rfl rfl rfl rfl rfl rfl ?_
  refine wl_pure Tryz.hT rfl rfl rfl ?_
  refine wl_pure Tryz.hT rfl rfl rfl ?_
  refine wl_nil ?_
  refine zE ?_
  refine wc_cond rfl (fun h => ?_) (fun h => ?_)
  · have hk : k < rs.length := by simp at h; omega
    clear h
    obtain ⟨q, cap2, hq1, hq2⟩ := hrow k hk
    refine zI ?_
    refine zE ?_
    refine zA ?_
    refine zH ?_
    refine zA ?_
    refine zA ?_
    refine zB ?_
    refine wl_pure Tryz.hT rfl rfl rfl ?_
    refine wl_loadBx 0 Tryz.hT rfl rfl rfl rfl rfl rfl rfl rfl ?_
    refine wl_pure Tryz.hT rfl rfl rfl ?_
    refine wl_indexAddr Tryz.hT rfl rfl rfl rfl rfl rfl rfl (by omega) (by omega) ?_
    refine wl_load rfl rfl rfl rfl (fun W hp => RowAt.load 0 Tryz.hT rfl ((fun W hp => hq1.hp hp) W hp) rfl) ?_
    refine wl_pure Tryz.hT rfl rfl rfl ?_
    refine wl_pure Tryz.hT rfl rfl rfl ?_
    refine wl_nil ?_
    refine zE ?_
    refine wc_cond rfl (fun h => ?_) (fun h => ?_)
    · refine zA ?_
      refine zB ?_
      refine wl_pure Tryz.hT rfl rfl rfl ?_
      refine wl_nil ?_
      refine zE ?_
      refine zO ?_
      refine zP ?_
      refine zQ ?_
      refine zP ?_
      refine zP ?_
      refine zQ ?_
      refine zP ?_
      have he : rs.any (fun l => l.length == 0) = true := List.any_eq_true.2 ⟨_, List.mem_of_getElem? (rg_get hk), by have h' : ((((rg rs k).length : Nat) : Int) == 0) = true := h; rw [beq_iff_eq] at h' ⊢; omega⟩
      exact ne_ret1 Tryz.hT rfl (.tmp rfl) () (by unfold chkR; rw [if_pos he]) trivial fun W _ => NewBx.nil _ _
    have hz : (rg rs k).length ≠ 0 := by
      have h' : ((((rg rs k).length : Nat) : Int) == 0) = false := h
      rw [beq_eq_false_iff_ne] at h'; omega
    clear h
    refine zI ?_
    refine zE ?_
    refine zB ?_
    refine wl_pure Tryz.hT rfl rfl rfl ?_
    refine wl_pure Tryz.hT rfl rfl rfl ?_
    refine wl_loadBx 0 Tryz.hT rfl rfl rfl rfl rfl rfl rfl rfl ?_
    refine wl_pure Tryz.hT rfl rfl rfl ?_
    refine wl_indexAddr Tryz.hT rfl rfl rfl rfl rfl rfl rfl (by omega) (by omega) ?_
    refine wl_load rfl rfl rfl rfl (fun W hp => RowAt.load 0 Tryz.hT rfl ((fun W hp => hq1.hp hp) W hp) rfl) ?_
    refine wl_pure Tryz.hT rfl rfl rfl ?_
    refine wl_pure Tryz.hT rfl rfl rfl ?_
    refine wl_pure Tryz.hT rfl rfl rfl ?_
    refine wl_nil ?_
    have hs : w64 ((tot (rs.take k) : Nat) + ((rg rs k).length : Nat)) = (tot (rs.take (k + 1)) : Nat) := by
      have h1 := tot_take_succ hk
      have h2 := tot_take_le rs (k + 1)
      rw [w64_id (by omega) (by omega)]; omega
    refine zN ?_
    refine zE ?_
    refine zB ?_
    refine wl_upd 3 _ rfl (congrArg (Value.int .i64) hs) ?_
    refine wl_pure Tryz.hT rfl rfl rfl ?_
    refine wl_pure Tryz.hT rfl rfl rfl ?_
    refine wl_pure Tryz.hT rfl rfl rfl ?_
    refine wl_nil ?_
    refine ne_loop (k + 1) ⟨hk, fun j hj => ?_⟩ (by omega) ⟨rfl, rfl, congrArg (fun z => some (Value.int .i64 z)) (wrap_id (x := (k : Int) + 1) (by omega) (by omega)), trivial⟩ [] rfl
    by_cases e : j = k
    · subst e; exact hz
    · exact hok j (by omega)
  have e : k = rs.length := by simp at h; omega
  subst e
  clear h
  rw [List.take_length]
  have hne : ∀ l ∈ rs, l ≠ [] := fun l hl e => by
    obtain ⟨i, hi, e2⟩ := List.getElem_of_mem hl
    have := hok i hi
    rw [show rg rs i = rs[i] by simp [rg, hi], e2, e] at this
    exact this rfl
  have he : rs.any (fun l => l.length == 0) = false := Bool.eq_false_iff.2 fun h2 => by
    obtain ⟨l, h3, h4⟩ := List.any_eq_true.1 h2
    rw [beq_iff_eq] at h4
    exact hne l h3 (List.length_eq_zero_iff.1 h4)
  have hN : ¬ (rs.any (fun l => l.length == 0) = true) := by rw [he]; decide
  have h0 : ¬ tot rs = 0 := by
    have h1 := len_le_tot (List.mem_of_getElem? (rg_get hpos))
    have h2 := hok 0 hpos
    omega
  refine zJ ?_
  refine zK ?_
  refine zK ?_
  refine zL ?_
  refine zE ?_
  refine zA ?_
  refine zA ?_
  refine zB ?_
  refine wl_pure Tryz.hT rfl rfl rfl ?_
  refine wl_pure Tryz.hT rfl rfl rfl ?_
  refine wl_nil ?_
  refine zE ?_
  refine wc_cond rfl (fun h => ?_) (fun h => ?_)
  · refine zA ?_
    refine zB ?_
    refine wl_pure Tryz.hT rfl rfl rfl ?_
    refine wl_nil ?_
    refine zE ?_
    refine zO ?_
    refine zP ?_
    have h1 : tot rs > 24 := by have h' : decide (((tot rs : Nat) : Int) > 24) = true := h; rw [decide_eq_true_iff] at h'; omega
    exact ne_ret1 Tryz.hT rfl (.tmp rfl) () (by unfold chkR; rw [if_neg hN, if_neg h0, if_pos h1]) trivial fun W _ => NewBx.nil _ _
  have h1 : ¬ tot rs > 24 := by have h' : decide (((tot rs : Nat) : Int) > 24) = false := h; rw [decide_eq_false_iff_not] at h'; omega
  clear h
  refine zI ?_
  refine zE ?_
  refine zA ?_
  refine zA ?_
  refine zB ?_
  refine wl_pure Tryz.hT rfl rfl rfl ?_
  refine wl_nil ?_
  refine zE ?_
  refine zH ?_
  refine wc_loop (X := Nat) (fun k => [(1, .pointer (some ⟨b1, 0, none⟩)), (5, .int .i64 (k : Nat))]) (fun _ => [⟨b1, 24, [slv (some ⟨b, off, none⟩) rs.length cap], true, none⟩])
    (fun k => k ≤ rs.length ∧ ∀ j, j < k → ∀ s ∈ rg rs j, rgd s = true) (fun k => rs.length - k) 0 ⟨Nat.zero_le _, fun j hj => absurd hj (Nat.not_lt_zero _)⟩ ⟨rfl, rfl, trivial⟩ [] rfl ?_
  rintro k ⟨hk, hok2⟩
  refine zA ?_
  refine zA ?_
  refine zB ?_
  refine wl_pure Tryz.hT rfl rfl rfl ?_
  refine wl_pure Tryz.hT rfl rfl rfl ?_
  refine wl_loadBx 0 Tryz.hT rfl rfl rfl rfl rfl rfl rfl rfl ?_
  refine wl_pure Tryz.hT rfl rfl rfl ?_
  refine wl_pure Tryz.hT rfl rfl rfl ?_
  refine wl_nil ?_
  refine zE ?_
  refine wc_cond rfl (fun h => ?_) (fun h => ?_)
  · have hk : k < rs.length := by simp at h; omega
    clear h
    obtain ⟨q, cap2, hq1, hq2⟩ := hrow k hk
    have hlk := hl _ (List.mem_of_getElem? (rg_get hk))
    refine zI ?_
    refine zE ?_
    refine zA ?_
    refine zH ?_
    refine zA ?_
    refine zB ?_
    refine wl_pure Tryz.hT rfl rfl rfl ?_
    refine wl_nil ?_
    refine zE ?_
    refine zH ?_
    refine wc_loop (X := Nat) (fun i => [(1, .pointer (some ⟨b1, 0, none⟩)), (5, .int .i64 (k : Nat)), (6, .int .i64 (i : Nat))]) (fun _ => [⟨b1, 24, [slv (some ⟨b, off, none⟩) rs.length cap], true, none⟩])
      (fun i => i ≤ (rg rs k).length ∧ ∀ j, j < i → rgd (sd (rg rs k) j) = true) (fun i => (rg rs k).length - i) 0 ⟨Nat.zero_le _, fun j hj => absurd hj (Nat.not_lt_zero _)⟩ ⟨rfl, rfl, rfl, trivial⟩ [] rfl ?_
    rintro i ⟨hi, hoki⟩
    refine zA ?_
    refine zA ?_
    refine zB ?_
    refine wl_pure Tryz.hT rfl rfl rfl ?_
    refine wl_pure Tryz.hT rfl rfl rfl ?_
    refine wl_loadBx 0 Tryz.hT rfl rfl rfl rfl rfl rfl rfl rfl ?_
    refine wl_pure Tryz.hT rfl rfl rfl ?_
    refine wl_indexAddr Tryz.hT rfl rfl rfl rfl rfl rfl rfl (by omega) (by omega) ?_
    refine wl_load rfl rfl rfl rfl (fun W hp => RowAt.load 0 Tryz.hT rfl ((fun W hp => hq1.hp hp) W hp) rfl) ?_
    refine wl_pure Tryz.hT rfl rfl rfl ?_
    refine wl_pure Tryz.hT rfl rfl rfl ?_
    refine wl_nil ?_
    refine zE ?_
    refine wc_cond rfl (fun h => ?_) (fun h => ?_)
    · have hi : i < (rg rs k).length := by simp at h; omega
      clear h
      obtain ⟨b4, off4, rfl, hrow4⟩ := hq2.row hi
      refine zI ?_
      refine zE ?_
      refine zA ?_
      refine zH ?_
      refine zA ?_
      refine zB ?_
      refine wl_pure Tryz.hT rfl rfl rfl ?_
      refine wl_loadBx 0 Tryz.hT rfl rfl rfl rfl rfl rfl rfl rfl ?_
      refine wl_pure Tryz.hT rfl rfl rfl ?_
      refine wl_indexAddr Tryz.hT rfl rfl rfl rfl rfl rfl rfl (by omega) (by omega) ?_
      refine wl_load rfl rfl rfl rfl (fun W hp => RowAt.load 0 Tryz.hT rfl ((fun W hp => hq1.hp hp) W hp) rfl) ?_
      refine wl_pure Tryz.hT rfl rfl rfl ?_
      refine wl_indexAddr Tryz.hT rfl rfl rfl rfl rfl rfl rfl (by omega) (by omega) ?_
      refine wl_load rfl rfl rfl rfl (fun W hp => RowAt.load 0 Tryz.hT rfl ((fun W hp => (hrow4 i hi).hp hp) W hp) rfl) ?_
      refine wl_call1 rfl rfl rfl rfl rfl rfl (by kernel_rfl) (fun W _ => rangedR_gives (sd (rg rs k) i) W) ?_
      refine wl_pure Tryz.hT rfl rfl rfl ?_
      refine wl_nil ?_
      refine zE ?_
      refine wc_cond rfl (fun h => ?_) (fun h => ?_)
      · refine zA ?_
        refine zB ?_
        refine wl_pure Tryz.hT rfl rfl rfl ?_
        refine wl_nil ?_
        refine zE ?_
        refine zO ?_
        refine zQ ?_
        refine zP ?_
        refine zP ?_
        refine zQ ?_
        refine zQ ?_
        refine zP ?_
        refine zP ?_
        refine zQ ?_
        refine zP ?_
        have h2 : rs.flatten.any (fun s => !rgd s) = true := List.any_eq_true.2 ⟨sd (rg rs k) i, List.mem_flatten.2 ⟨rg rs k, List.mem_of_getElem? (rg_get hk), List.mem_of_getElem? (sd_get hi)⟩, h⟩
        exact ne_ret1 Tryz.hT rfl (.tmp rfl) () (by unfold chkR; rw [if_neg hN, if_neg h0, if_neg h1, if_pos h2]) trivial fun W _ => NewBx.nil _ _
      · have hg : rgd (sd (rg rs k) i) = true := by have h' : (!rgd (sd (rg rs k) i)) = false := h; simpa using h'
        refine zI ?_
        refine zN ?_
        refine zE ?_
        refine zB ?_
        refine wl_pure Tryz.hT rfl rfl rfl ?_
        refine wl_pure Tryz.hT rfl rfl rfl ?_
        refine wl_pure Tryz.hT rfl rfl rfl ?_
        refine wl_nil ?_
        refine ne_loop (i + 1) ⟨hi, fun j hj => ?_⟩ (by omega) ⟨rfl, rfl, congrArg (fun z => some (Value.int .i64 z)) (wrap_id (x := (i : Int) + 1) (by omega) (by omega)), trivial⟩ [] rfl
        by_cases e : j = i
        · subst e; exact hg
        · exact hoki j (by omega)
    · have e : i = (rg rs k).length := by simp at h; omega
      subst e
      refine zJ ?_
      refine zK ?_
      refine zK ?_
      refine zL ?_
      refine zN ?_
      refine zE ?_
      refine zB ?_
      refine wl_pure Tryz.hT rfl rfl rfl ?_
      refine wl_pure Tryz.hT rfl rfl rfl ?_
      refine wl_pure Tryz.hT rfl rfl rfl ?_
      refine wl_nil ?_
      refine ne_loop (k + 1) ⟨hk, fun j hj s hs => ?_⟩ (by omega) ⟨rfl, congrArg (fun z => some (Value.int .i64 z)) (wrap_id (x := (k : Int) + 1) (by omega) (by omega)), trivial⟩ [] rfl
      by_cases e : j = k
      · subst e
        obtain ⟨m, hm, e⟩ := List.getElem_of_mem hs
        have := hoki m hm
        rw [show sd (rg rs j) m = s by simp [sd, hm, e]] at this
        exact this
      · exact hok2 j (by omega) s hs
  have e : k = rs.length := by simp at h; omega
  subst e
  clear h
  have hrg : ∀ l ∈ rs, ∀ s ∈ l, rgd s = true := fun l hl s hs => by
    obtain ⟨i, hi, e2⟩ := List.getElem_of_mem hl
    have := hok2 i hi
    rw [show rg rs i = l by simp [rg, hi, e2]] at this
    exact this s hs
  have h2 : ¬ (rs.flatten.any (fun s => !rgd s) = true) := fun h => by
    obtain ⟨s, hs, h⟩ := List.any_eq_true.1 h
    obtain ⟨l, hl, hs⟩ := List.mem_flatten.1 hs
    rw [hrg l hl s hs] at h; cases h
  refine zJ ?_
  refine zK ?_
  refine zK ?_
  refine zL ?_
  refine zE ?_
  refine zA ?_
  refine zA ?_
  refine zB ?_
  refine wl_pure Tryz.hT rfl rfl rfl ?_
  refine wl_nil ?_
  refine zE ?_
  refine zH ?_
  refine wc_loop (X := Nat) (fun k => [(1, .pointer (some ⟨b1, 0, none⟩)), (7, .int .i64 (k : Nat))]) (fun _ => [⟨b1, 24, [slv (some ⟨b, off, none⟩) rs.length cap], true, none⟩])
    (fun k => k ≤ rs.length ∧ ∀ j, j < k → shpR (rg rs j) = true) (fun k => rs.length - k) 0 ⟨Nat.zero_le _, fun j hj => absurd hj (Nat.not_lt_zero _)⟩ ⟨rfl, rfl, trivial⟩ [] rfl ?_
  rintro k ⟨hk, hok3⟩
  refine zA ?_
  refine zA ?_
  refine zB ?_
  refine wl_pure Tryz.hT rfl rfl rfl ?_
  refine wl_pure Tryz.hT rfl rfl rfl ?_
  refine wl_loadBx 0 Tryz.hT rfl rfl rfl rfl rfl rfl rfl rfl ?_
  refine wl_pure Tryz.hT rfl rfl rfl ?_
  refine wl_pure Tryz.hT rfl rfl rfl ?_
  refine wl_nil ?_
  refine zE ?_
  refine wc_cond rfl (fun h => ?_) (fun h => ?_)
  · have hk : k < rs.length := by simp at h; omega
    clear h
    obtain ⟨q, cap2, hq1, hq2⟩ := hrow k hk
    have hlk := hl _ (List.mem_of_getElem? (rg_get hk))
    refine zI ?_
    refine zE ?_
    refine zA ?_
    refine zH ?_
    refine zA ?_
    refine zB ?_
    refine wl_pure Tryz.hT rfl rfl rfl ?_
    refine wl_loadBx 0 Tryz.hT rfl rfl rfl rfl rfl rfl rfl rfl ?_
    refine wl_pure Tryz.hT rfl rfl rfl ?_
    refine wl_indexAddr Tryz.hT rfl rfl rfl rfl rfl rfl rfl (by omega) (by omega) ?_
    refine wl_load rfl rfl rfl rfl (fun W hp => RowAt.load 0 Tryz.hT rfl ((fun W hp => hq1.hp hp) W hp) rfl) ?_
    refine wl_call1 rfl rfl rfl rfl rfl rfl (by kernel_rfl) (fun W hp => shapedR_gives W q cap2 (rg rs k) hlk (hq2.hp hp)) ?_
    refine wl_pure Tryz.hT rfl rfl rfl ?_
    refine wl_nil ?_
    refine zE ?_
    refine wc_cond rfl (fun h => ?_) (fun h => ?_)
    · refine zA ?_
      refine zB ?_
      refine wl_pure Tryz.hT rfl rfl rfl ?_
      refine wl_nil ?_
      refine zE ?_
      refine zO ?_
      refine zQ ?_
      refine zP ?_
      refine zP ?_
      refine zQ ?_
      refine zP ?_
      have h3 : rs.any (fun l => !shpR l) = true := List.any_eq_true.2 ⟨_, List.mem_of_getElem? (rg_get hk), h⟩
      exact ne_ret1 Tryz.hT rfl (.tmp rfl) () (by unfold chkR; rw [if_neg hN, if_neg h0, if_neg h1, if_neg h2, if_pos h3]) trivial fun W _ => NewBx.nil _ _
    · have hg : shpR (rg rs k) = true := by have h' : (!shpR (rg rs k)) = false := h; simpa using h'
      refine zI ?_
      refine zN ?_
      refine zE ?_
      refine zB ?_
      refine wl_pure Tryz.hT rfl rfl rfl ?_
      refine wl_pure Tryz.hT rfl rfl rfl ?_
      refine wl_pure Tryz.hT rfl rfl rfl ?_
      refine wl_nil ?_
      refine ne_loop (k + 1) ⟨hk, fun j hj => ?_⟩ (by omega) ⟨rfl, congrArg (fun z => some (Value.int .i64 z)) (wrap_id (x := (k : Int) + 1) (by omega) (by omega)), trivial⟩ [] rfl
      by_cases e : j = k
      · subst e; exact hg
      · exact hok3 j (by omega)
  have e : k = rs.length := by simp at h; omega
  subst e
  clear h
  have h3 : ¬ (rs.any (fun l => !shpR l) = true) := fun h => by
    obtain ⟨l, hl, h⟩ := List.any_eq_true.1 h
    obtain ⟨i, hi, e2⟩ := List.getElem_of_mem hl
    have := hok3 i hi
    rw [show rg rs i = l by simp [rg, hi, e2]] at this
    rw [this] at h; cases h
  refine zJ ?_
  refine zK ?_
  refine zK ?_
  refine zL ?_
  refine zE ?_
  refine zA ?_
  refine zA ?_
  refine zB ?_
  refine wl_pure Tryz.hT rfl rfl rfl ?_
  refine wl_loadBx 0 Tryz.hT rfl rfl rfl rfl rfl rfl rfl rfl ?_
  refine wl_call1 rfl rfl rfl rfl rfl rfl (by kernel_rfl) (fun W hp => crossedR_gives W _ cap rs hn hl (hR.below (Nat.le_refl _) hp.below)) ?_
  refine wl_nil ?_
  refine zE ?_
  refine wc_cond rfl (fun h => ?_) (fun h => ?_)
  · refine zA ?_
    refine zB ?_
    refine wl_pure Tryz.hT rfl rfl rfl ?_
    refine wl_nil ?_
    refine zE ?_
    refine zO ?_
    refine zP ?_
    exact ne_ret1 Tryz.hT rfl (.tmp rfl) () (by unfold chkR; rw [if_neg hN, if_neg h0, if_neg h1, if_neg h2, if_neg h3, if_pos h]) trivial fun W _ => NewBx.nil _ _
  have h4 : ¬ (crs rs = true) := by rw [h]; decide
  clear h
  refine zI ?_
  refine zE ?_
  refine zA ?_
  refine zA ?_
  refine zB ?_
  refine wl_pure Tryz.hT rfl rfl rfl ?_
  refine wl_loadBx 0 Tryz.hT rfl rfl rfl rfl rfl rfl rfl rfl ?_
  refine wl_call1 rfl rfl rfl rfl rfl rfl (by kernel_rfl) (fun W hp => placedR_gives W _ cap rs hn hl hne hpos (hR.below (Nat.le_refl _) hp.below)) ?_
  refine wl_pure Tryz.hT rfl rfl rfl ?_
  refine wl_pure Tryz.hT rfl rfl rfl ?_
  refine wl_part 84 rfl (fun h84 => ?_) (fun h84 => ?_)
  · refine wl_skip rfl rfl ?_
    refine wl_skip rfl rfl ?_
    refine wl_skip rfl rfl ?_
    refine wl_skip rfl rfl ?_
    refine wl_pure Tryz.hT rfl rfl rfl ?_
    refine wl_nil ?_
    have h5 : (!plcR rs || !jndR rs) = true := by rw [show (!plcR rs) = true from h84]; rfl
    refine zE ?_
    refine zR rfl ?_
    refine zA ?_
    refine zB ?_
    refine wl_pure Tryz.hT rfl rfl rfl ?_
    refine wl_nil ?_
    refine zE ?_
    refine zO ?_
    refine zP ?_
    exact ne_ret1 Tryz.hT rfl (.tmp rfl) () (by unfold chkR; rw [if_neg hN, if_neg h0, if_neg h1, if_neg h2, if_neg h3, if_neg h4, if_pos h5]) trivial fun W _ => NewBx.nil _ _
  · refine wl_pure Tryz.hT rfl rfl rfl ?_
    refine wl_loadBx 0 Tryz.hT rfl rfl rfl rfl rfl rfl rfl rfl ?_
    refine wl_call1 rfl rfl rfl rfl rfl rfl (by kernel_rfl) (fun W hp => reflex_gives W _ cap rs hn hl (hR.below (Nat.le_refl _) hp.below)) ?_
    refine wl_pure Tryz.hT rfl rfl rfl ?_
    refine wl_pure Tryz.hT rfl rfl rfl ?_
    refine wl_nil ?_
    have h' : (!plcR rs) = false := h84
    refine zE ?_
    refine wc_cond rfl (fun h => ?_) (fun h => ?_)
    · refine zA ?_
      refine zB ?_
      refine wl_pure Tryz.hT rfl rfl rfl ?_
      refine wl_nil ?_
      refine zE ?_
      refine zO ?_
      refine zP ?_
      have h5 : (!plcR rs || !jndR rs) = true := by rw [h', show (!jndR rs) = true from h]; rfl
      exact ne_ret1 Tryz.hT rfl (.tmp rfl) () (by unfold chkR; rw [if_neg hN, if_neg h0, if_neg h1, if_neg h2, if_neg h3, if_neg h4, if_pos h5]) trivial fun W _ => NewBx.nil _ _
    · refine zI ?_
      refine zE ?_
      refine zA ?_
      refine zB ?_
      refine wl_pure Tryz.hT rfl rfl rfl ?_
      refine wl_nil ?_
      refine zE ?_
      refine zO ?_
      have h5 : ¬ ((!plcR rs || !jndR rs) = true) := by rw [h', show (!jndR rs) = false from h]; decide
      exact ne_ret1 Tryz.hT rfl (.tmp rfl) () (by unfold chkR; rw [if_neg hN, if_neg h0, if_neg h1, if_neg h2, if_neg h3, if_neg h4, if_neg h5]) trivial fun W _ => NewBx.nil _ _
end Go.Proofs.YtnpfkmbcejgnjaaGreatDoor
