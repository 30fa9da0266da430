/-
  Why a plan is not valid.
-/
import Derived.Test.YtnpfkmbcejgnjaaGreatDoorCross
import Derived.Test.YtnpfkmbcejgnjaaGreatDoorFind
import Derived.Test.YtnpfkmbcejgnjaaGreatDoorPlace
import Derived.Test.YtnpfkmbcejgnjaaGreatDoorJoin
namespace Go.Proofs.YtnpfkmbcejgnjaaGreatDoor
open Go Go.RowKit Go.Am
set_option maxRecDepth 10000
-- BOXES 3
abbrev planV (p : Option Addr) (n cap : Nat) : Value := .agg #[slv p n cap]
def rgdAll (rs : List (List Sd)) : Bool := !(rs.flatten.any fun s => !rgd s)
/-- Why a plan is not valid: the error's number. -/
def chk (rs : List (List Sd)) : Int :=
  if rs.any (fun l => l.length == 0) = true then 5
  else if tot rs = 0 then 5
  else if tot rs > 24 then 4
  else if rs.flatten.any (fun s => !rgd s) = true then 2
  else if rs.any (fun l => !shp l) = true then 14
  else if crs rs = true then 15
  else if (!plc rs || !jnd rs) = true then 14
  else 0
theorem len_le_tot {rs : List (List Sd)} {l : List Sd} (h : l ∈ rs) : l.length ≤ tot rs := by
  unfold tot
  induction rs with
  | nil => cases h
  | cons x rs ih =>
    rw [List.map_cons, List.sum_cons]
    rcases List.mem_cons.1 h with rfl | h
    · omega
    · have := ih h; omega
set_option maxHeartbeats 4000000 in
theorem check_gives (W : World) (p : Option Addr) (cap : Nat) (rs : List (List Sd)) (hn : rs.length < 4611686018427387904) (hT : tot rs < 1099511627776) (hR : RingsP W p rs) :
    CallsR Tryz.prog 23 #[planV p rs.length cap] W (fun _ : Unit => .int .i64 (chk rs)) (fun _ => True) (fun _ => []) := by
  have hl : ∀ l ∈ rs, l.length < 4611686018427387904 := fun l h => by have := len_le_tot h; omega
  refine calls_enter (args := [planV p rs.length cap]) Tryz.func23 rfl rfl rfl ?_
  refine zA ?_
  refine zB ?_
  (refine wl_box rfl rfl rfl rfl ?_; intro)
  refine wl_pure Tryz.hT rfl rfl rfl ?_
  refine wl_nil ?_
  rename_i b1
  refine zE ?_
  refine zA ?_
  refine zB ?_
  refine wl_pure Tryz.hT rfl rfl rfl ?_
  refine wl_nil ?_
  refine zE ?_
  refine zA ?_
  refine zA ?_
  refine zB ?_
  refine wl_pure Tryz.hT rfl rfl rfl ?_
  refine wl_loadBx 0 Tryz.hT rfl rfl rfl rfl rfl rfl rfl rfl ?_
  refine wl_pure Tryz.hT rfl rfl rfl ?_
  refine wl_pure Tryz.hT rfl rfl rfl ?_
  refine wl_nil ?_
  refine zE ?_
  refine zH ?_
  refine wc_loop (X := Nat) (fun k => [(1, .pointer (some ⟨b1, 0, none⟩)), (3, .int .i64 (tot (rs.take k) : Nat)), (7, slv p rs.length cap), (8, .int .i64 (rs.length : Nat)), (9, .int .i64 (k : Nat))]) (fun _ => [⟨b1, 24, [slv p rs.length cap], true, none⟩])
    (fun k => k ≤ rs.length ∧ ∀ j, j < k → (rg rs j).length ≠ 0) (fun k => rs.length - k) 0 ⟨Nat.zero_le _, fun j hj => absurd hj (Nat.not_lt_zero _)⟩ ⟨rfl, rfl, rfl, rfl, rfl, trivial⟩ [] rfl ?_
  rintro k ⟨hk, hok⟩
  refine zA ?_
  refine zB ?_
  refine wl_pure Tryz.hT rfl rfl rfl ?_
  refine wl_nil ?_
  refine zE ?_
  refine zA ?_
  refine wc_cond rfl (fun h => ?_) (fun h => ?_)
  · have hk : k < rs.length := by simp at h; omega
    clear h
    obtain ⟨b, off, rfl, hrow⟩ := hR.row hk
    obtain ⟨q, cap2, hq1, hq2⟩ := hrow k hk
    refine zI ?_
    refine zE ?_
    refine zA ?_
    refine zH ?_
    refine zA ?_
    refine zB ?_
    refine wl_indexAddr Tryz.hT rfl rfl rfl rfl rfl rfl rfl (by omega) (by omega) ?_
    refine wl_load rfl rfl rfl rfl (fun W hp => RowAt.load 0 Tryz.hT rfl ((fun W hp => hq1.hp hp) W hp) rfl) ?_
    refine wl_pure Tryz.hT rfl rfl rfl ?_
    refine wl_nil ?_
    refine zE ?_
    refine zA ?_
    refine zA ?_
    refine zB ?_
    refine wl_pure Tryz.hT rfl rfl rfl ?_
    refine wl_pure Tryz.hT rfl rfl rfl ?_
    refine wl_pure Tryz.hT rfl rfl rfl ?_
    refine wl_nil ?_
    refine zE ?_
    refine wc_cond rfl (fun h => ?_) (fun h => ?_)
    · refine zA ?_
      refine zB ?_
      refine wl_pure Tryz.hT rfl rfl rfl ?_
      refine wl_nil ?_
      refine zE ?_
      refine zO ?_
      refine zP ?_
      refine zQ ?_
      refine zP ?_
      refine zP ?_
      refine zQ ?_
      refine zP ?_
      have he : rs.any (fun l => l.length == 0) = true := List.any_eq_true.2 ⟨_, List.mem_of_getElem? (rg_get hk), by have h' : ((((rg rs k).length : Nat) : Int) == 0) = true := h; rw [beq_iff_eq] at h' ⊢; omega⟩
      exact ne_ret1 Tryz.hT rfl (.tmp rfl) () (by unfold chk; rw [if_pos he]) trivial fun W _ => NewBx.nil _ _
    have hz : (rg rs k).length ≠ 0 := by
      have h' : ((((rg rs k).length : Nat) : Int) == 0) = false := h
      rw [beq_eq_false_iff_ne] at h'; omega
    clear h
    refine zI ?_
    refine zE ?_
    refine zB ?_
    refine wl_pure Tryz.hT rfl rfl rfl ?_
    refine wl_pure Tryz.hT rfl rfl rfl ?_
    refine wl_pure Tryz.hT rfl rfl rfl ?_
    refine wl_pure Tryz.hT rfl rfl rfl ?_
    refine wl_pure Tryz.hT rfl rfl rfl ?_
    refine wl_nil ?_
    have hs : w64 ((tot (rs.take k) : Nat) + ((rg rs k).length : Nat)) = (tot (rs.take (k + 1)) : Nat) := by
      have h1 := tot_take_succ hk
      have h2 := tot_take_le rs (k + 1)
      rw [w64_id (by omega) (by omega)]; omega
    refine zN ?_
    refine zE ?_
    refine zB ?_
    refine wl_upd 3 _ rfl (congrArg (Value.int .i64) hs) ?_
    refine wl_pure Tryz.hT rfl rfl rfl ?_
    refine wl_pure Tryz.hT rfl rfl rfl ?_
    refine wl_nil ?_
    refine ne_loop (k + 1) ⟨hk, fun j hj => ?_⟩ (by omega) ⟨rfl, rfl, rfl, rfl, congrArg (fun z => some (Value.int .i64 z)) (wrap_id (x := (k : Int) + 1) (by omega) (by omega)), trivial⟩ [] rfl
    by_cases e : j = k
    · subst e; exact hz
    · exact hok j (by omega)
  have e : k = rs.length := by simp at h; omega
  subst e
  clear h
  rw [List.take_length]
  have hne : ∀ l ∈ rs, l ≠ [] := fun l hl e => by
    obtain ⟨i, hi, e2⟩ := List.getElem_of_mem hl
    have := hok i hi
    rw [show rg rs i = rs[i] by simp [rg, hi], e2, e] at this
    exact this rfl
  have he : rs.any (fun l => l.length == 0) = false := Bool.eq_false_iff.2 fun h2 => by
    obtain ⟨l, h3, h4⟩ := List.any_eq_true.1 h2
    rw [beq_iff_eq] at h4
    exact hne l h3 (List.length_eq_zero_iff.1 h4)
  have hN : ¬ (rs.any (fun l => l.length == 0) = true) := by rw [he]; decide
  refine zJ ?_
  refine zK ?_
  refine zK ?_
  refine zL ?_
  refine zE ?_
  refine zA ?_
  refine zH ?_
  refine zA ?_
  refine zB ?_
  refine wl_pure Tryz.hT rfl rfl rfl ?_
  refine wl_pure Tryz.hT rfl rfl rfl ?_
  refine wl_pure Tryz.hT rfl rfl rfl ?_
  refine wl_nil ?_
  refine zE ?_
  refine wc_cond rfl (fun h => ?_) (fun h => ?_)
  · refine zA ?_
    refine zB ?_
    refine wl_pure Tryz.hT rfl rfl rfl ?_
    refine wl_nil ?_
    refine zE ?_
    refine zO ?_
    refine zQ ?_
    refine zP ?_
    have h0 : tot rs = 0 := by have h' : (((tot rs : Nat) : Int) == 0) = true := h; rw [beq_iff_eq] at h'; omega
    exact ne_ret1 Tryz.hT rfl (.tmp rfl) () (by unfold chk; rw [if_neg hN, if_pos h0]) trivial fun W _ => NewBx.nil _ _
  have h0 : ¬ tot rs = 0 := by have h' : (((tot rs : Nat) : Int) == 0) = false := h; rw [beq_eq_false_iff_ne] at h'; omega
  clear h
  refine zA ?_
  refine zB ?_
  refine wl_pure Tryz.hT rfl rfl rfl ?_
  refine wl_pure Tryz.hT rfl rfl rfl ?_
  refine wl_pure Tryz.hT rfl rfl rfl ?_
  refine wl_nil ?_
  refine zE ?_
  refine wc_cond rfl (fun h => ?_) (fun h => ?_)
  · refine zA ?_
    refine zB ?_
    refine wl_pure Tryz.hT rfl rfl rfl ?_
    refine wl_nil ?_
    refine zE ?_
    refine zO ?_
    refine zQ ?_
    refine zP ?_
    have h1 : tot rs > 24 := by have h' : decide (((tot rs : Nat) : Int) > 24) = true := h; rw [decide_eq_true_iff] at h'; omega
    exact ne_ret1 Tryz.hT rfl (.tmp rfl) () (by unfold chk; rw [if_neg hN, if_neg h0, if_pos h1]) trivial fun W _ => NewBx.nil _ _
  have h1 : ¬ tot rs > 24 := by have h' : decide (((tot rs : Nat) : Int) > 24) = false := h; rw [decide_eq_false_iff_not] at h'; omega
  clear h
  refine zA ?_
  refine zB ?_
  refine wl_pure Tryz.hT rfl rfl rfl ?_
  refine wl_loadBx 0 Tryz.hT rfl rfl rfl rfl rfl rfl rfl rfl ?_
  refine wl_call (X := Vec) rfl rfl rfl rfl rfl rfl (by kernel_rfl) (fun W hp => concat_gives W p cap rs hn hT (hR.below (Nat.le_refl _) hp.below) hne) ?_
  intro V hV
  obtain ⟨q, cq, eV, hVR⟩ := Vec.ring hV
  have hfl : rs.flatten.length < 4611686018427387904 := by rw [flat_len]; omega
  refine wl_upd 30 _ rfl eV ?_
  refine wl_call1 rfl rfl rfl rfl rfl rfl (by kernel_rfl) (fun W hp => containsSd_gives 56 (by kernel_rfl) (fun s => !rgd s) check1_gives W q cq rs.flatten hfl (hVR hp 1 rfl)) ?_
  refine wl_pure Tryz.hT rfl rfl rfl ?_
  refine wl_nil ?_
  refine zE ?_
  refine wc_cond rfl (fun h => ?_) (fun h => ?_)
  · refine zA ?_
    refine zB ?_
    refine wl_pure Tryz.hT rfl rfl rfl ?_
    refine wl_nil ?_
    refine zE ?_
    refine zO ?_
    refine zQ ?_
    refine zP ?_
    exact ne_ret1 Tryz.hT rfl (.tmp rfl) () (by unfold chk; rw [if_neg hN, if_neg h0, if_neg h1, if_pos h]) trivial fun W _ => NewBx.nil _ _
  have h2 : ¬ (rs.flatten.any (fun s => !rgd s) = true) := by rw [h]; decide
  clear h
  refine zA ?_
  refine zB ?_
  refine wl_pure Tryz.hT rfl rfl rfl ?_
  refine wl_loadBx 0 Tryz.hT rfl rfl rfl rfl rfl rfl rfl rfl ?_
  refine wl_call1 rfl rfl rfl rfl rfl rfl (by kernel_rfl) (fun W hp => containsRg_gives 59 (by kernel_rfl) (fun l => !shp l) check2_gives W p cap rs hn hl (hR.below (Nat.le_refl _) hp.below)) ?_
  refine wl_pure Tryz.hT rfl rfl rfl ?_
  refine wl_nil ?_
  refine zE ?_
  refine wc_cond rfl (fun h => ?_) (fun h => ?_)
  · refine zA ?_
    refine zB ?_
    refine wl_pure Tryz.hT rfl rfl rfl ?_
    refine wl_nil ?_
    refine zE ?_
    refine zO ?_
    refine zQ ?_
    refine zP ?_
    exact ne_ret1 Tryz.hT rfl (.tmp rfl) () (by unfold chk; rw [if_neg hN, if_neg h0, if_neg h1, if_neg h2, if_pos h]) trivial fun W _ => NewBx.nil _ _
  have h3 : ¬ (rs.any (fun l => !shp l) = true) := by rw [h]; decide
  clear h
  refine zA ?_
  refine zB ?_
  refine wl_pure Tryz.hT rfl rfl rfl ?_
  refine wl_loadBx 0 Tryz.hT rfl rfl rfl rfl rfl rfl rfl rfl ?_
  refine wl_call1 rfl rfl rfl rfl rfl rfl (by kernel_rfl) (fun W hp => crossed_gives W p cap rs hn hT hl (hR.below (Nat.le_refl _) hp.below)) ?_
  refine wl_pure Tryz.hT rfl rfl rfl ?_
  refine wl_nil ?_
  refine zE ?_
  refine wc_cond rfl (fun h => ?_) (fun h => ?_)
  · refine zA ?_
    refine zB ?_
    refine wl_pure Tryz.hT rfl rfl rfl ?_
    refine wl_nil ?_
    refine zE ?_
    refine zO ?_
    refine zQ ?_
    refine zP ?_
    exact ne_ret1 Tryz.hT rfl (.tmp rfl) () (by unfold chk; rw [if_neg hN, if_neg h0, if_neg h1, if_neg h2, if_neg h3, if_pos h]) trivial fun W _ => NewBx.nil _ _
  have h4 : ¬ (crs rs = true) := by rw [h]; decide
  clear h
  refine zA ?_
  refine zB ?_
  refine wl_pure Tryz.hT rfl rfl rfl ?_
  refine wl_loadBx 0 Tryz.hT rfl rfl rfl rfl rfl rfl rfl rfl ?_
  refine wl_call1 rfl rfl rfl rfl rfl rfl (by kernel_rfl) (fun W hp => placed_gives W p cap rs hn hl hne (hR.below (Nat.le_refl _) hp.below)) ?_
  refine wl_pure Tryz.hT rfl rfl rfl ?_
  refine wl_pure Tryz.hT rfl rfl rfl ?_
  refine wl_part 45 rfl (fun h45 => ?_) (fun h45 => ?_)
  · have h5 : (!plc rs || !jnd rs) = true := by have h' : (!plc rs) = true := h45; rw [h']; rfl
    refine wl_skip rfl rfl ?_
    refine wl_skip rfl rfl ?_
    refine wl_skip rfl rfl ?_
    refine wl_skip rfl rfl ?_
    refine wl_pure Tryz.hT rfl rfl rfl ?_
    refine wl_pure Tryz.hT rfl rfl rfl ?_
    refine wl_nil ?_
    refine zE ?_
    refine zR rfl ?_
    refine zA ?_
    refine zB ?_
    refine wl_pure Tryz.hT rfl rfl rfl ?_
    refine wl_nil ?_
    refine zE ?_
    refine zO ?_
    refine zQ ?_
    refine zP ?_
    exact ne_ret1 Tryz.hT rfl (.tmp rfl) () (by unfold chk; rw [if_neg hN, if_neg h0, if_neg h1, if_neg h2, if_neg h3, if_neg h4, if_pos h5]) trivial fun W _ => NewBx.nil _ _
  · have h' : (!plc rs) = false := h45
    refine wl_pure Tryz.hT rfl rfl rfl ?_
    refine wl_loadBx 0 Tryz.hT rfl rfl rfl rfl rfl rfl rfl rfl ?_
    refine wl_call1 rfl rfl rfl rfl rfl rfl (by kernel_rfl) (fun W hp => joined_gives W p cap rs hn hl (hR.below (Nat.le_refl _) hp.below)) ?_
    refine wl_pure Tryz.hT rfl rfl rfl ?_
    refine wl_pure Tryz.hT rfl rfl rfl ?_
    refine wl_pure Tryz.hT rfl rfl rfl ?_
    refine wl_nil ?_
    refine zE ?_
    refine wc_cond rfl (fun h => ?_) (fun h => ?_)
    · refine zA ?_
      refine zB ?_
      refine wl_pure Tryz.hT rfl rfl rfl ?_
      refine wl_nil ?_
      refine zE ?_
      refine zO ?_
      refine zQ ?_
      refine zP ?_
      have h5 : (!plc rs || !jnd rs) = true := by rw [h', h]; rfl
      exact ne_ret1 Tryz.hT rfl (.tmp rfl) () (by unfold chk; rw [if_neg hN, if_neg h0, if_neg h1, if_neg h2, if_neg h3, if_neg h4, if_pos h5]) trivial fun W _ => NewBx.nil _ _
    · refine zI ?_
      refine zN ?_
      refine zE ?_
      refine zA ?_
      refine zB ?_
      refine wl_pure Tryz.hT rfl rfl rfl ?_
      refine wl_nil ?_
      refine zE ?_
      refine zO ?_
      have h5 : ¬ ((!plc rs || !jnd rs) = true) := by rw [h', h]; decide
      exact ne_ret1 Tryz.hT rfl (.tmp rfl) () (by unfold chk; rw [if_neg hN, if_neg h0, if_neg h1, if_neg h2, if_neg h3, if_neg h4, if_neg h5]) trivial fun W _ => NewBx.nil _ _
end Go.Proofs.YtnpfkmbcejgnjaaGreatDoor
