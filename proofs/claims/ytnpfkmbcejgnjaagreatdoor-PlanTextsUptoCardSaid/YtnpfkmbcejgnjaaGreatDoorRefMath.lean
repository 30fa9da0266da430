/-
  Plain facts: the four changed plans are refused.
-/
import Derived.Test.YtnpfkmbcejgnjaaGreatDoorCrsMath
namespace Go.Proofs.YtnpfkmbcejgnjaaGreatDoor
open Go Go.RowKit Go.Am
/-! ### A ring the other way -/
theorem sd_rev {l : List Sd} {i : Nat} (h : i < l.length) : sd l.reverse i = sd l (l.length - 1 - i) := by
  simp [sd, h, List.getElem_reverse, show l.length - 1 - i < l.length by omega]
/-- The side of the reversed ring at a place is this one of the ring. -/
def rvi (n i : Nat) : Nat := prv n (n - 1 - i)
theorem rvi_lt {n i : Nat} (h : i < n) : rvi n i < n := prv_lt (by omega)
theorem rvi_val {n i : Nat} (h : i < n) : rvi n i = if i + 1 = n then n - 1 else n - 2 - i := by
  unfold rvi
  rw [prv_val (by omega)]
  split <;> split <;> omega
theorem rev_beg {l : List Sd} {i : Nat} (h : i < l.length) : sd l.reverse i = sd l (nxt l.length (rvi l.length i)) := by
  rw [sd_rev h]
  unfold rvi
  rw [nxt_prv (by omega)]
theorem rev_end {l : List Sd} {i : Nat} (h : i < l.length) : sd l.reverse (nxt l.length i) = sd l (rvi l.length i) := by
  rw [sd_rev (nxt_lt h), rvi_val h, nxt_val h]
  congr 1
  split <;> omega
theorem crossAt_rev {l : List Sd} {i : Nat} (h : i < l.length) : crossAt l.reverse i = -crossAt l (rvi l.length i) := by
  unfold crossAt
  rw [List.length_reverse, rev_end h, rev_beg h, Int.mul_comm (sd l (nxt l.length (rvi l.length i))).x, Int.mul_comm (sd l (nxt l.length (rvi l.length i))).y]
  omega
theorem sumTo_back (f : Nat → Int) : ∀ n, sumTo (fun i => f (n - 1 - i)) n = sumTo f n
  | 0 => rfl
  | n + 1 => by
    rw [← sumTo_succ, sumTo_congr (g := fun i => f (n - 1 - i)) n (fun i hi => by rw [show n + 1 - 1 - (i + 1) = n - 1 - i by omega]), sumTo_back f n]
    show sumTo f n + f (n + 1 - 1 - 0) = sumTo f n + f n
    rfl
theorem sumTo_neg (f : Nat → Int) : ∀ n, sumTo (fun i => -f i) n = -sumTo f n
  | 0 => rfl
  | n + 1 => by
    show sumTo _ n + -f n = -(sumTo f n + f n)
    rw [sumTo_neg f n]; omega
theorem area_rev (l : List Sd) : sumTo (crossAt l.reverse) l.length = -sumTo (crossAt l) l.length := by
  rw [sumTo_congr (g := fun i => -crossAt l (rvi l.length i)) l.length (fun i hi => crossAt_rev hi), sumTo_neg]
  congr 1
  show sumTo (fun i => crossAt l (prv l.length (l.length - 1 - i))) l.length = _
  rw [sumTo_back (fun i => crossAt l (prv l.length i)), ← sumTo_nxt (fun i => crossAt l (prv l.length i))]
  exact sumTo_congr _ fun i hi => by rw [prv_nxt hi]
theorem meet_swap (t u t' u' : Sd) : meetB u t t' u' = meetB t u t' u' := by
  unfold meetB lox hix loy hiy
  rw [Bool.eq_iff_iff]
  simp only [Bool.and_eq_true, decide_eq_true_eq]
  omega
theorem crs_rev {rs : List (List Sd)} (h : crs rs = false) {r : Nat} (hr : r < rs.length) : crs (rs.set r (rg rs r).reverse) = false := by
  have hlen : ∀ k, (rg (rs.set r (rg rs r).reverse) k).length = (rg rs k).length := fun k => by
    rw [rg_set hr]
    split
    · rename_i e; subst e; rw [List.length_reverse]
    · rfl
  -- each side is one of the plan, with its ends exchanged or not
  have key : ∀ k i, k < rs.length → i < (rg rs k).length → ∃ j, j < (rg rs k).length ∧ (k = r → j = rvi (rg rs k).length i) ∧ (k ≠ r → j = i) ∧
      ∀ t u, meetB (bsd (rs.set r (rg rs r).reverse) (k, i)) (esd (rs.set r (rg rs r).reverse) (k, i)) t u = meetB (bsd rs (k, j)) (esd rs (k, j)) t u := fun k i hk hi => by
    by_cases e : k = r
    · refine ⟨rvi (rg rs k).length i, rvi_lt hi, fun _ => rfl, fun h => absurd e h, fun t u => ?_⟩
      unfold bsd esd
      simp only
      rw [rg_set hr, if_pos e, ← e, List.length_reverse, rev_beg hi, rev_end hi, meet_swap]
    · refine ⟨i, hi, fun h => absurd h e, fun _ => rfl, fun t u => ?_⟩
      unfold bsd esd
      simp only
      rw [rg_set hr, if_neg e]
  refine (crs_iff _).2 fun k i s j h1 h2 h3 h4 hn => ?_
  rw [List.length_set] at h1 h3
  rw [hlen] at h2 h4
  obtain ⟨a, ha, ha1, ha2, e1⟩ := key k i h1 h2
  obtain ⟨b, hb, hb1, hb2, e2⟩ := key s j h3 h4
  rw [e1, meet_comm, e2, meet_comm]
  refine (crs_iff rs).1 h k a s b h1 ha h3 hb fun hnear => hn ?_
  obtain ⟨rfl, hnear⟩ := hnear
  refine ⟨rfl, ?_⟩
  rw [hlen]
  by_cases e : k = r
  · rw [ha1 e, hb1 e, rvi_val h2, rvi_val h4] at hnear
    rw [nxt_val h2, nxt_val h4]
    rw [nxt_val (by split <;> omega), nxt_val (by split <;> omega)] at hnear
    revert hnear
    repeat' split
    all_goals omega
  · rw [ha2 e, hb2 e] at hnear
    exact hnear
theorem chk_rev {rs : List (List Sd)} (h : chk rs = 0) {r : Nat} (hr : r < rs.length) : chk (rs.set r (rg rs r).reverse) = 14 := by
  obtain ⟨hg, hs, hc, hp, hj⟩ := chk_parts h
  obtain ⟨hne, h24, h0⟩ := chk_ne h
  have hin : allR rs := fun l hl s hs => rgd_inR (hg l hl s hs)
  have hm : rg rs r ∈ rs := List.mem_of_getElem? (rg_get hr)
  have ht := tot_set hr (rg rs r).reverse
  rw [List.length_reverse] at ht
  have hlen := len_le_tot hm
  refine chk_14 (fun l hl e => ?_) (by omega) (by omega) (rgd_set hg fun s hs => hg _ hm s (List.mem_reverse.1 hs)) (.inr ⟨crs_rev hc hr, .inl ?_⟩)
  · subst e
    rcases mem_set hl with hl | hl
    · exact hne _ hl rfl
    · exact hne _ hm (List.reverse_eq_nil_iff.1 hl.symm)
  · refine all_range_false (k := r) (by rw [List.length_set]; exact hr) ?_
    unfold placeRing
    rw [rg_set hr, if_pos rfl, List.length_reverse]
    have hrev : ∀ s ∈ (rg rs r).reverse, inR s := fun s hs => hin _ hm s (List.mem_reverse.1 hs)
    rw [(areaUp_eq hrev _ (by rw [List.length_reverse]; exact Nat.le_refl _) (by omega)).1, area_rev]
    have h1 : placeRing rs r = true := List.all_eq_true.1 hp r (List.mem_range.2 hr)
    unfold placeRing at h1
    rw [(areaUp_eq (hin _ hm) _ (Nat.le_refl _) (by omega)).1] at h1
    have h2 := (Bool.and_eq_true_iff.1 h1).1
    have h3 := area_ne hin hs hc hr
    rw [beq_iff_eq] at h2
    generalize sumTo (crossAt (rg rs r)) (rg rs r).length = a at *
    have : (decide (-a > 0) == (r == 0)) = false := by
      rw [← h2]
      by_cases e : a > 0
      · rw [decide_eq_true e, decide_eq_false (by omega)]; rfl
      · rw [decide_eq_false e, decide_eq_true (by omega)]; rfl
    rw [this]; rfl
/-! ### Gables alone -/
def gab (s : Sd) : Sd := { s with gable := true, rise := 0, run := 0 }
theorem rgd_gab {s : Sd} (h : rgd s = true) : rgd (gab s) = true := by
  unfold rgd gab at *
  simp only [Bool.and_eq_true, btw, decide_eq_true_eq] at h ⊢
  refine ⟨?_, h.2⟩
  rw [if_pos trivial]; rfl
theorem someUp_gab (l : List Sd) : ∀ k, k ≤ l.length → someUp (l.map gab) false k = false
  | 0, _ => rfl
  | k + 1, h => by
    show (someUp (l.map gab) false k || !(sd (l.map gab) k).gable) = false
    rw [someUp_gab l k (by omega), sd_map (by omega)]; rfl
theorem someRs_gab (rs : List (List Sd)) : ∀ k, someRs (rs.map (·.map gab)) k = false
  | 0 => rfl
  | k + 1 => by
    show someUp (rg (rs.map (·.map gab)) k) (someRs (rs.map (·.map gab)) k) (rg (rs.map (·.map gab)) k).length = false
    rw [someRs_gab rs k, rg_map, List.length_map]
    exact someUp_gab _ _ (Nat.le_refl _)
theorem chk_gab {rs : List (List Sd)} (h : chk rs = 0) : chk (rs.map (·.map gab)) = 14 := by
  obtain ⟨hg, hs, hc, hp, hj⟩ := chk_parts h
  obtain ⟨hne, h24, h0⟩ := chk_ne h
  refine chk_14 (fun l hl e => ?_) (by rw [tot_map]; exact h0) (by rw [tot_map]; exact h24) (any_rgd_mk fun l hl s hs => ?_) (.inr ⟨crs_same (by rw [List.length_map]) (fun r _ => map_len gab rs r) (fun r i _ hi => ?_) hc, .inr ?_⟩)
  · obtain ⟨m, hm, rfl⟩ := List.mem_map.1 hl
    exact hne m hm (List.map_eq_nil_iff.1 e)
  · obtain ⟨m, hm, rfl⟩ := List.mem_map.1 hl
    obtain ⟨t, ht, rfl⟩ := List.mem_map.1 hs
    exact rgd_gab (hg m hm t ht)
  · rw [rg_map, sd_map hi]; exact ⟨rfl, rfl⟩
  · unfold jnd
    rw [someRs_gab, Bool.and_false]
/-! ### A corner twice -/
theorem sd_ins_low {l : List Sd} {i : Nat} (hi : i < l.length) : sd (l.take i ++ sd l i :: l.drop i) i = sd l i := by
  unfold sd
  rw [List.getD_eq_getElem?_getD, List.getElem?_append_right (by simp [Nat.min_eq_left (Nat.le_of_lt hi)])]
  simp [Nat.min_eq_left (Nat.le_of_lt hi)]
theorem sd_ins_high {l : List Sd} {i : Nat} (hi : i < l.length) : sd (l.take i ++ sd l i :: l.drop i) (i + 1) = sd l i := by
  unfold sd
  rw [List.getD_eq_getElem?_getD, List.getElem?_append_right (by simp [Nat.min_eq_left (Nat.le_of_lt hi)])]
  simp [Nat.min_eq_left (Nat.le_of_lt hi), hi]
theorem ins_len {l : List Sd} {i : Nat} (hi : i < l.length) : (l.take i ++ sd l i :: l.drop i).length = l.length + 1 := by
  simp [Nat.min_eq_left (Nat.le_of_lt hi)]; omega
theorem chk_ins {rs : List (List Sd)} (h : chk rs = 0) (h12 : tot rs ≤ 12) {r i : Nat} (hr : r < rs.length) (hi : i < (rg rs r).length) : chk (rs.set r ((rg rs r).take i ++ sd (rg rs r) i :: (rg rs r).drop i)) = 14 := by
  obtain ⟨hg, hs, hc, hp, hj⟩ := chk_parts h
  obtain ⟨hne, h24, h0⟩ := chk_ne h
  have hm : rg rs r ∈ rs := List.mem_of_getElem? (rg_get hr)
  have ht := tot_set hr ((rg rs r).take i ++ sd (rg rs r) i :: (rg rs r).drop i)
  rw [ins_len hi] at ht
  refine chk_14 (fun l hl e => ?_) (by omega) (by omega) (rgd_set hg fun s hs => ?_) (.inl ⟨_, self_set hr _, shp_false (k := i) (by rw [ins_len hi]; omega) ?_⟩)
  · rcases mem_set hl with hl | hl
    · exact hne _ hl e
    · rw [e] at hl; have := congrArg List.length hl; rw [ins_len hi] at this; simp at this
  · refine hg _ hm s ?_
    rcases List.mem_append.1 hs with h | h
    · exact List.mem_of_mem_take h
    · rcases List.mem_cons.1 h with rfl | h
      · exact List.mem_of_getElem? (sd_get hi)
      · exact List.mem_of_mem_drop h
  · unfold okSide
    rw [ins_len hi, nxt_val (by omega), if_neg (by omega), sd_ins_low hi, sd_ins_high hi]
    unfold okAt
    rw [Int.sub_self, Int.sub_self]
    rfl
/-! ### Another Plate at a reflex corner -/
def raise (s : Sd) : Sd := { s with plate := Int.tmod (s.plate + 1) 60000 }
theorem sd_set {l : List Sd} {i : Nat} (hi : i < l.length) (s : Sd) (k : Nat) : sd (l.set i s) k = if k = i then s else sd l k := by
  unfold sd
  rw [List.getD_eq_getElem?_getD, List.getD_eq_getElem?_getD]
  by_cases e : k = i
  · subst e; rw [if_pos rfl, List.getElem?_set_self hi]; rfl
  · rw [if_neg e, List.getElem?_set_ne (fun h => e h.symm)]
theorem rgd_plate {s : Sd} (h : rgd s = true) : 0 ≤ s.plate ∧ s.plate ≤ 65536 := by
  unfold rgd at h
  simp only [Bool.and_eq_true, btw, decide_eq_true_eq] at h
  exact h.2.1.2
theorem raise_plate {s : Sd} (h : rgd s = true) : (raise s).plate ≠ s.plate ∧ 0 ≤ (raise s).plate ∧ (raise s).plate ≤ 65536 := by
  obtain ⟨h1, h2⟩ := rgd_plate h
  have e : (raise s).plate = (s.plate + 1) % 60000 := by
    show Int.tmod (s.plate + 1) 60000 = _
    rw [Int.tmod_eq_emod_of_nonneg (by omega)]
  rw [e]; omega
theorem rgd_raise {s : Sd} (h : rgd s = true) : rgd (raise s) = true := by
  obtain ⟨_, h3, h4⟩ := raise_plate h
  unfold rgd at h ⊢
  simp only [Bool.and_eq_true, btw, decide_eq_true_eq] at h ⊢
  exact ⟨h.1, ⟨h.2.1.1, h3, h4⟩, h.2.2⟩
theorem chk_raise {rs : List (List Sd)} (h : chk rs = 0) {r i : Nat} (hr : r < rs.length) (hi : i < (rg rs r).length) (hx : lefq rs (r, i) = false) : chk (rs.set r ((rg rs r).set i (raise (sd (rg rs r) i)))) = 14 := by
  obtain ⟨hg, hs, hc, hp, hj⟩ := chk_parts h
  obtain ⟨hne, h24, h0⟩ := chk_ne h
  have hm : rg rs r ∈ rs := List.mem_of_getElem? (rg_get hr)
  have h4 := shp_len (hs _ hm)
  have ht := tot_set hr ((rg rs r).set i (raise (sd (rg rs r) i)))
  rw [List.length_set] at ht
  have hgi := hg _ hm _ (List.mem_of_getElem? (sd_get hi))
  refine chk_14 (fun l hl e => ?_) (by omega) (by omega) (rgd_set hg fun s hs => ?_) (.inr ⟨crs_same (by rw [List.length_set]) (fun k _ => ?_) (fun k j _ hj => ?_) hc, .inr ?_⟩)
  · subst e
    rcases mem_set hl with hl | hl
    · exact hne _ hl rfl
    · have := congrArg List.length hl; rw [List.length_set] at this; simp at this; omega
  · rcases List.mem_or_eq_of_mem_set hs with hs | rfl
    · exact hg _ hm s hs
    · exact rgd_raise hgi
  · rw [rg_set hr]
    split
    · rename_i e; subst e; rw [List.length_set]
    · rfl
  · rw [rg_set hr]
    split
    · rename_i e; subst e
      rw [sd_set hi]
      split
      · rename_i e; subst e; exact ⟨rfl, rfl⟩
      · exact ⟨rfl, rfl⟩
    · exact ⟨rfl, rfl⟩
  · have hjr : joinRing (rg rs r) = true := by
      unfold jnd at hj
      exact List.all_eq_true.1 (Bool.and_eq_true_iff.1 hj).1 _ hm
    have hji : joinSide (rg rs r) i = true := List.all_eq_true.1 hjr i (List.mem_range.2 hi)
    unfold joinSide joinB at hji
    rw [show leftB (sd (rg rs r) (prv (rg rs r).length i)) (sd (rg rs r) i) (sd (rg rs r) (nxt (rg rs r).length i)) = false from hx, Bool.false_or] at hji
    have hpl := (Bool.and_eq_true_iff.1 hji).2
    rw [beq_iff_eq] at hpl
    have hbad : joinRing ((rg rs r).set i (raise (sd (rg rs r) i))) = false := by
      refine all_range_false (k := i) (by rw [List.length_set]; exact hi) ?_
      unfold joinSide
      rw [List.length_set, sd_set hi, sd_set hi, sd_set hi, if_pos rfl, if_neg (by rw [prv_val hi]; split <;> omega), if_neg (by rw [nxt_val hi]; split <;> omega)]
      unfold joinB
      rw [show leftB (sd (rg rs r) (prv (rg rs r).length i)) (raise (sd (rg rs r) i)) (sd (rg rs r) (nxt (rg rs r).length i)) = false from hx, Bool.false_or]
      have : ((raise (sd (rg rs r) i)).plate == (sd (rg rs r) (prv (rg rs r).length i)).plate) = false := by
        rw [beq_eq_false_iff_ne, ← hpl]; exact (raise_plate hgi).1
      rw [this, Bool.and_false]
    unfold jnd
    have : (rs.set r ((rg rs r).set i (raise (sd (rg rs r) i)))).all joinRing = false := Bool.eq_false_iff.2 fun e => by
      have := List.all_eq_true.1 e _ (self_set hr _)
      rw [hbad] at this; cases this
    rw [this]; rfl
end Go.Proofs.YtnpfkmbcejgnjaaGreatDoor
