/-
  The reference: touch sides that must not; lie the rings as they must; are reflex corners right.
-/
import Derived.Test.YtnpfkmbcejgnjaaGreatDoorRef2
import Derived.Test.YtnpfkmbcejgnjaaGreatDoorCrsMath
namespace Go.Proofs.YtnpfkmbcejgnjaaGreatDoor
open Go Go.RowKit Go.Am
set_option maxRecDepth 10000
-- BOXES 2
/-- Two sides touch that must not, as the reference asks. -/
def badR (rs : List (List Sd)) (r i s k : Nat) : Bool :=
  !((r == s) && (decide (k ≤ i) || (k == i + 1) || ((i == 0) && (k + 1 == (rg rs r).length)))) && meetB (sd (rg rs r) i) (sd (rg rs r) (nxt (rg rs r).length i)) (sd (rg rs s) k) (sd (rg rs s) (nxt (rg rs s).length k))
theorem badR_crs {rs : List (List Sd)} {r i s k : Nat} (hr : r < rs.length) (hi : i < (rg rs r).length) (hs : s < rs.length) (hk : k < (rg rs s).length) (h : badR rs r i s k = true) : crs rs = true := by
  unfold badR at h
  obtain ⟨h1, h2⟩ := Bool.and_eq_true_iff.1 h
  cases hc : crs rs with
  | true => rfl
  | false =>
    have := (crs_iff rs).1 hc r i s k hr hi hs hk (fun hn => by
      obtain ⟨rfl, hn⟩ := hn
      rw [nxt_val hi, nxt_val hk] at hn
      have : ((r == r) && (decide (k ≤ i) || (k == i + 1) || ((i == 0) && (k + 1 == (rg rs r).length)))) = true := by
        simp only [beq_self_eq_true, Bool.true_and, Bool.or_eq_true, Bool.and_eq_true, decide_eq_true_eq, beq_iff_eq]
        revert hn
        split <;> split <;> intro hn <;> omega
      rw [this] at h1; cases h1)
    rw [show meetB (bsd rs (r, i)) (esd rs (r, i)) (bsd rs (s, k)) (esd rs (s, k)) = true from h2] at this
    cases this
theorem crs_noBad {rs : List (List Sd)} (h : ∀ r i s k, r < rs.length → i < (rg rs r).length → s < rs.length → k < (rg rs s).length → r ≤ s → badR rs r i s k = false) : crs rs = false := by
  have one : ∀ r i s k, r < rs.length → i < (rg rs r).length → s < rs.length → k < (rg rs s).length → (r < s ∨ (r = s ∧ i < k)) → ¬ near rs r i s k → meetB (bsd rs (r, i)) (esd rs (r, i)) (bsd rs (s, k)) (esd rs (s, k)) = false := fun r i s k hr hi hs hk ho hn => by
    have hb := h r i s k hr hi hs hk (by omega)
    unfold badR at hb
    have : ((r == s) && (decide (k ≤ i) || (k == i + 1) || ((i == 0) && (k + 1 == (rg rs r).length)))) = false := by
      by_cases e : r = s
      · subst e
        have hik : i < k := by omega
        rw [beq_self_eq_true, Bool.true_and, Bool.eq_false_iff]
        intro h2
        refine hn ⟨rfl, ?_⟩
        rw [nxt_val hi, nxt_val hk]
        simp only [Bool.or_eq_true, Bool.and_eq_true, decide_eq_true_eq, beq_iff_eq] at h2
        split <;> split <;> omega
      · rw [beq_eq_false_iff_ne.2 e]; rfl
    rw [this, Bool.not_false, Bool.true_and] at hb
    exact hb
  refine (crs_iff rs).2 fun r i s k hr hi hs hk hn => ?_
  by_cases ho : r < s ∨ (r = s ∧ i < k)
  · exact one r i s k hr hi hs hk ho hn
  · rw [meet_comm]
    have hne : ¬ (r = s ∧ i = k) := fun ⟨e1, e2⟩ => hn ⟨e1, .inl e2⟩
    refine one s k r i hs hk hr hi (by omega) fun hn2 => hn ?_
    obtain ⟨rfl, hn2⟩ := hn2
    exact ⟨rfl, by omega⟩
set_option maxHeartbeats 8000000 in
theorem crossedR_gives (W : World) (p : Option Addr) (cap : Nat) (rs : List (List Sd)) (hn : rs.length < 4611686018427387904) (hl : ∀ l ∈ rs, l.length < 4611686018427387904) (hR : RingsP W p rs) :
    CallsR Tryz.prog 66 #[slv p rs.length cap] W (fun _ : Unit => .bool (crs rs)) (fun _ => True) (fun _ => []) := by
  refine calls_enter (args := [slv p rs.length cap]) Tryz.func66 rfl rfl rfl ?_
  refine zA ?_
  refine zB ?_
  refine wl_pure Tryz.hT rfl rfl rfl ?_
  refine wl_nil ?_
  refine zE ?_
  refine zA ?_
  refine zA ?_
  refine zB ?_
  refine wl_pure Tryz.hT rfl rfl rfl ?_
  refine wl_nil ?_
  refine zE ?_
  refine zH ?_
  refine wc_loop (X := Nat) (fun r => [(0, slv p rs.length cap), (3, .int .i64 (r : Nat))]) (fun _ => [])
    (fun r => r ≤ rs.length ∧ ∀ r' i s k, r' < r → r' < rs.length → i < (rg rs r').length → s < rs.length → k < (rg rs s).length → r' ≤ s → badR rs r' i s k = false) (fun r => rs.length - r) 0 ⟨Nat.zero_le _, fun r' i s k h => absurd h (Nat.not_lt_zero _)⟩ ⟨rfl, rfl, trivial⟩ [] rfl ?_
  rintro r ⟨hr, P1⟩
  refine zA ?_
  refine zA ?_
  refine zB ?_
  refine wl_pure Tryz.hT rfl rfl rfl ?_
  refine wl_pure Tryz.hT rfl rfl rfl ?_
  refine wl_pure Tryz.hT rfl rfl rfl ?_
  refine wl_pure Tryz.hT rfl rfl rfl ?_
  refine wl_nil ?_
  refine zE ?_
  refine wc_cond rfl (fun h => ?_) (fun h => ?_)
  rotate_left
  · have e : r = rs.length := by simp at h; omega
    subst e
    refine zJ ?_
    refine zK ?_
    refine zK ?_
    refine zL ?_
    refine zE ?_
    refine zA ?_
    refine zB ?_
    refine wl_pure Tryz.hT rfl rfl rfl ?_
    refine wl_nil ?_
    refine zE ?_
    refine zO ?_
    have hc : crs rs = false := crs_noBad fun r' i s k h1 h2 h3 h4 h5 => P1 r' i s k h1 h1 h2 h3 h4 h5
    exact ne_ret1 Tryz.hT rfl (.tmp rfl) () (by rw [hc]) trivial fun W _ => NewBx.nil _ _
  have hr : r < rs.length := by simp at h; omega
  clear h
  obtain ⟨b, off, rfl, hrow⟩ := hR.row hr
  obtain ⟨q, cap2, hq1, hq2⟩ := hrow r hr
  have hlr := hl _ (List.mem_of_getElem? (rg_get hr))
  refine zI ?_
  refine zE ?_
  refine zA ?_
  refine zH ?_
  refine zA ?_
  refine zB ?_
  refine wl_pure Tryz.hT rfl rfl rfl ?_
  refine wl_nil ?_
  refine zE ?_
  refine zH ?_
  refine wc_loop (X := Nat) (fun i => [(0, slv (some ⟨b, off, none⟩) rs.length cap), (3, .int .i64 (r : Nat)), (4, .int .i64 (i : Nat))]) (fun _ => [])
    (fun i => i ≤ (rg rs r).length ∧ ∀ i' s k, i' < i → i' < (rg rs r).length → s < rs.length → k < (rg rs s).length → r ≤ s → badR rs r i' s k = false) (fun i => (rg rs r).length - i) 0 ⟨Nat.zero_le _, fun i' s k h => absurd h (Nat.not_lt_zero _)⟩ ⟨rfl, rfl, rfl, trivial⟩ [] rfl ?_
  rintro i ⟨hi, P2⟩
  refine zA ?_
  refine zA ?_
  refine zB ?_
  refine wl_pure Tryz.hT rfl rfl rfl ?_
  refine wl_pure Tryz.hT rfl rfl rfl ?_
  refine wl_pure Tryz.hT rfl rfl rfl ?_
  refine wl_indexAddr Tryz.hT rfl rfl rfl rfl rfl rfl rfl (by omega) (by omega) ?_
  refine wl_load rfl rfl rfl rfl (fun W hp => RowAt.load 0 Tryz.hT rfl ((fun W hp => hq1.hp hp) W hp) rfl) ?_
  refine wl_pure Tryz.hT rfl rfl rfl ?_
  refine wl_pure Tryz.hT rfl rfl rfl ?_
  refine wl_nil ?_
  refine zE ?_
  refine wc_cond rfl (fun h => ?_) (fun h => ?_)
  rotate_left
  · have e : i = (rg rs r).length := by simp at h; omega
    subst e
    refine zJ ?_
    refine zK ?_
    refine zK ?_
    refine zL ?_
    refine zN ?_
    refine zE ?_
    refine zB ?_
    refine wl_pure Tryz.hT rfl rfl rfl ?_
    refine wl_pure Tryz.hT rfl rfl rfl ?_
    refine wl_pure Tryz.hT rfl rfl rfl ?_
    refine wl_nil ?_
    refine ne_loop (r + 1) ⟨hr, fun r' i' s k h0 h1 h2 h3 h4 h5 => ?_⟩ (by omega) ⟨rfl, congrArg (fun z => some (Value.int .i64 z)) (wrap_id (x := (r : Int) + 1) (by omega) (by omega)), trivial⟩ [] rfl
    by_cases e : r' = r
    · subst e; exact P2 i' s k h2 h2 h3 h4 h5
    · exact P1 r' i' s k (by omega) h1 h2 h3 h4 h5
  have hi : i < (rg rs r).length := by simp at h; omega
  clear h
  refine zI ?_
  refine zE ?_
  refine zA ?_
  refine zH ?_
  refine zA ?_
  refine zB ?_
  refine wl_pure Tryz.hT rfl rfl rfl ?_
  refine wl_pure Tryz.hT rfl rfl rfl ?_
  refine wl_nil ?_
  refine zE ?_
  refine zH ?_
  refine wc_loop (X := Nat) (fun s => [(0, slv (some ⟨b, off, none⟩) rs.length cap), (3, .int .i64 (r : Nat)), (4, .int .i64 (i : Nat)), (5, .int .i64 (s : Nat))]) (fun _ => [])
    (fun s => s ≤ rs.length ∧ r ≤ s ∧ ∀ s' k, s' < s → s' < rs.length → k < (rg rs s').length → r ≤ s' → badR rs r i s' k = false) (fun s => rs.length - s) r ⟨by omega, Nat.le_refl _, fun s' k h0 _ _ h5 => absurd h0 (by omega)⟩ ⟨rfl, rfl, rfl, rfl, trivial⟩ [] rfl ?_
  rintro s ⟨hs, hrs, P3⟩
  refine zA ?_
  refine zA ?_
  refine zB ?_
  refine wl_pure Tryz.hT rfl rfl rfl ?_
  refine wl_pure Tryz.hT rfl rfl rfl ?_
  refine wl_pure Tryz.hT rfl rfl rfl ?_
  refine wl_pure Tryz.hT rfl rfl rfl ?_
  refine wl_nil ?_
  refine zE ?_
  refine wc_cond rfl (fun h => ?_) (fun h => ?_)
  rotate_left
  · have e : s = rs.length := by simp at h; omega
    subst e
    refine zJ ?_
    refine zK ?_
    refine zK ?_
    refine zL ?_
    refine zN ?_
    refine zE ?_
    refine zB ?_
    refine wl_pure Tryz.hT rfl rfl rfl ?_
    refine wl_pure Tryz.hT rfl rfl rfl ?_
    refine wl_pure Tryz.hT rfl rfl rfl ?_
    refine wl_nil ?_
    refine ne_loop (i + 1) ⟨hi, fun i' s k h0 h2 h3 h4 h5 => ?_⟩ (by omega) ⟨rfl, rfl, congrArg (fun z => some (Value.int .i64 z)) (wrap_id (x := (i : Int) + 1) (by omega) (by omega)), trivial⟩ [] rfl
    by_cases e : i' = i
    · subst e; exact P3 s k h3 h3 h4 h5
    · exact P2 i' s k (by omega) h2 h3 h4 h5
  have hs : s < rs.length := by simp at h; omega
  clear h
  obtain ⟨q', cap3, hq3, hq4⟩ := hrow s hs
  have hls := hl _ (List.mem_of_getElem? (rg_get hs))
  refine zI ?_
  refine zE ?_
  refine zA ?_
  refine zH ?_
  refine zA ?_
  refine zB ?_
  refine wl_pure Tryz.hT rfl rfl rfl ?_
  refine wl_nil ?_
  refine zE ?_
  refine zH ?_
  refine wc_loop (X := Nat) (fun k => [(0, slv (some ⟨b, off, none⟩) rs.length cap), (3, .int .i64 (r : Nat)), (4, .int .i64 (i : Nat)), (5, .int .i64 (s : Nat)), (6, .int .i64 (k : Nat))]) (fun _ => [])
    (fun k => k ≤ (rg rs s).length ∧ ∀ k', k' < k → badR rs r i s k' = false) (fun k => (rg rs s).length - k) 0 ⟨Nat.zero_le _, fun k' h => absurd h (Nat.not_lt_zero _)⟩ ⟨rfl, rfl, rfl, rfl, rfl, trivial⟩ [] rfl ?_
  rintro k ⟨hk, P4⟩
  refine zA ?_
  refine zA ?_
  refine zB ?_
  refine wl_pure Tryz.hT rfl rfl rfl ?_
  refine wl_pure Tryz.hT rfl rfl rfl ?_
  refine wl_pure Tryz.hT rfl rfl rfl ?_
  refine wl_indexAddr Tryz.hT rfl rfl rfl rfl rfl rfl rfl (by omega) (by omega) ?_
  refine wl_load rfl rfl rfl rfl (fun W hp => RowAt.load 0 Tryz.hT rfl ((fun W hp => hq3.hp hp) W hp) rfl) ?_
  refine wl_pure Tryz.hT rfl rfl rfl ?_
  refine wl_pure Tryz.hT rfl rfl rfl ?_
  refine wl_nil ?_
  refine zE ?_
  refine wc_cond rfl (fun h => ?_) (fun h => ?_)
  rotate_left
  · have e : k = (rg rs s).length := by simp at h; omega
    subst e
    refine zJ ?_
    refine zK ?_
    refine zK ?_
    refine zL ?_
    refine zN ?_
    refine zE ?_
    refine zB ?_
    refine wl_pure Tryz.hT rfl rfl rfl ?_
    refine wl_pure Tryz.hT rfl rfl rfl ?_
    refine wl_pure Tryz.hT rfl rfl rfl ?_
    refine wl_nil ?_
    refine ne_loop (s + 1) ⟨hs, by omega, fun s' k h0 h3 h4 h5 => ?_⟩ (by omega) ⟨rfl, rfl, rfl, congrArg (fun z => some (Value.int .i64 z)) (wrap_id (x := (s : Int) + 1) (by omega) (by omega)), trivial⟩ [] rfl
    by_cases e : s' = s
    · subst e; exact P4 k h4
    · exact P3 s' k (by omega) h3 h4 h5
  have hk : k < (rg rs s).length := by simp at h; omega
  clear h
  have fin : badR rs r i s k = false → ∀ k', k' < k + 1 → badR rs r i s k' = false := fun h k' hk' => by
    by_cases e : k' = k
    · subst e; exact h
    · exact P4 k' (by omega)
  have e1 : ∀ z : Int, z = (k : Int) + 1 → w64 z = ((k + 1 : Nat) : Int) := fun z h => by rw [h, w64_id (by omega) (by omega)]; omega
  -- the side is left out
  have skip : ((r == s) && (decide (k ≤ i) || (k == i + 1) || ((i == 0) && (k + 1 == (rg rs r).length)))) = true → badR rs r i s k = false := fun h => by unfold badR; rw [h]; rfl
  have test : ((r == s) && (decide (k ≤ i) || (k == i + 1) || ((i == 0) && (k + 1 == (rg rs r).length)))) = false → badR rs r i s k = meetB (sd (rg rs r) i) (sd (rg rs r) (nxt (rg rs r).length i)) (sd (rg rs s) k) (sd (rg rs s) (nxt (rg rs s).length k)) := fun h => by unfold badR; rw [h]; rfl
  obtain ⟨C1, c1⟩ : ∃ b, ((r : Int) == (s : Int)) = b := ⟨_, rfl⟩
  obtain ⟨C2, c2⟩ : ∃ b, decide ((k : Int) ≤ (i : Int)) = b := ⟨_, rfl⟩
  obtain ⟨C3, c3⟩ : ∃ b, ((k : Int) == w64 ((i : Int) + 1)) = b := ⟨_, rfl⟩
  obtain ⟨C4, c4⟩ : ∃ b, ((i : Int) == 0) = b := ⟨_, rfl⟩
  obtain ⟨C5, c5⟩ : ∃ b, ((k : Int) == w64 (((rg rs r).length : Nat) - 1)) = b := ⟨_, rfl⟩
  have hC : ((r == s) && (decide (k ≤ i) || (k == i + 1) || ((i == 0) && (k + 1 == (rg rs r).length)))) = (C1 && (C2 || C3 || (C4 && C5))) := by
    rw [w64_id (by omega) (by omega)] at c3 c5
    rw [← c1, ← c2, ← c3, ← c4, ← c5, natInt_beq]
    have a2 : decide (k ≤ i) = decide ((k : Int) ≤ (i : Int)) := by by_cases h : k ≤ i; rw [decide_eq_true h, decide_eq_true (by omega)]; rw [decide_eq_false h, decide_eq_false (by omega)]
    have a3 : (k == i + 1) = ((k : Int) == (i : Int) + 1) := by rw [Bool.eq_iff_iff, beq_iff_eq, beq_iff_eq]; omega
    have a4 : (i == 0) = ((i : Int) == 0) := by rw [Bool.eq_iff_iff, beq_iff_eq, beq_iff_eq]; omega
    have a5 : (k + 1 == (rg rs r).length) = ((k : Int) == ((rg rs r).length : Nat) - 1) := by rw [Bool.eq_iff_iff, beq_iff_eq, beq_iff_eq]; omega
    rw [a2, a3, a4, a5]
  refine zI ?_
  refine zE ?_
  refine zA ?_
  refine zH ?_
  refine zA ?_
  refine zB ?_
  refine wl_pure Tryz.hT rfl rfl rfl ?_
  refine wl_pure Tryz.hT rfl rfl rfl ?_
  refine wl_indexAddr Tryz.hT rfl rfl rfl rfl rfl rfl rfl (by omega) (by omega) ?_
  refine wl_load rfl rfl rfl rfl (fun W hp => RowAt.load 0 Tryz.hT rfl ((fun W hp => hq1.hp hp) W hp) rfl) ?_
  refine wl_pure Tryz.hT rfl rfl rfl ?_
  refine wl_pure Tryz.hT rfl rfl rfl ?_
  refine wl_nil ?_
  refine zE ?_
  refine zA ?_
  refine zA ?_
  refine zB ?_
  refine wl_pure Tryz.hT rfl rfl rfl ?_
  refine wl_pure Tryz.hT rfl rfl rfl ?_
  refine wl_pure Tryz.hT rfl rfl rfl ?_
  refine wl_pure Tryz.hT rfl rfl rfl ?_
  refine wl_part 47 rfl (fun h47 => ?_) (fun h47 => ?_)
  · refine wl_pure Tryz.hT rfl rfl rfl ?_
    refine wl_pure Tryz.hT rfl rfl rfl ?_
    refine wl_pure Tryz.hT rfl rfl rfl ?_
    refine wl_pure Tryz.hT rfl rfl rfl ?_
    refine wl_part 51 rfl (fun h51 => ?_) (fun h51 => ?_)
    · refine wl_skip rfl rfl ?_
      refine wl_skip rfl rfl ?_
      refine wl_skip rfl rfl ?_
      refine wl_skip rfl rfl ?_
      refine wl_pure Tryz.hT rfl rfl rfl ?_
      refine wl_pure Tryz.hT rfl rfl rfl ?_
      refine wl_skip rfl rfl ?_
      refine wl_skip rfl rfl ?_
      refine wl_skip rfl rfl ?_
      refine wl_skip rfl rfl ?_
      refine wl_skip rfl rfl ?_
      refine wl_skip rfl rfl ?_
      refine wl_skip rfl rfl ?_
      refine wl_skip rfl rfl ?_
      refine wl_pure Tryz.hT rfl rfl rfl ?_
      refine wl_pure Tryz.hT rfl rfl rfl ?_
      refine wl_nil ?_
      have e : (C1 && (C2 || C3 || (C4 && C5))) = true := by first | (rw [show C1 = true from c1.symm.trans h47, show C2 = true from c2.symm.trans h51]; rfl) | (rw [show C1 = true from c1.symm.trans h47, show C3 = true from c3.symm.trans h57]; cases C2 <;> rfl)
      refine zE ?_
      refine zR rfl ?_
      refine zJ ?_
      refine zK ?_
      refine zL ?_
      refine zE ?_
      refine zB ?_
      refine wl_pure Tryz.hT rfl rfl rfl ?_
      refine wl_pure Tryz.hT rfl rfl rfl ?_
      refine wl_pure Tryz.hT rfl rfl rfl ?_
      refine wl_nil ?_
      exact ne_loop (k + 1) ⟨hk, fin (skip (hC.trans e))⟩ (by omega) ⟨rfl, rfl, rfl, rfl, congrArg (fun z => some (Value.int .i64 z)) (wrap_id (x := (k : Int) + 1) (by omega) (by omega)), trivial⟩ [] rfl
    · refine wl_pure Tryz.hT rfl rfl rfl ?_
      refine wl_pure Tryz.hT rfl rfl rfl ?_
      refine wl_pure Tryz.hT rfl rfl rfl ?_
      refine wl_pure Tryz.hT rfl rfl rfl ?_
      refine wl_pure Tryz.hT rfl rfl rfl ?_
      refine wl_pure Tryz.hT rfl rfl rfl ?_
      refine wl_part 57 rfl (fun h57 => ?_) (fun h57 => ?_)
      · refine wl_skip rfl rfl ?_
        refine wl_skip rfl rfl ?_
        refine wl_skip rfl rfl ?_
        refine wl_skip rfl rfl ?_
        refine wl_skip rfl rfl ?_
        refine wl_skip rfl rfl ?_
        refine wl_skip rfl rfl ?_
        refine wl_skip rfl rfl ?_
        refine wl_pure Tryz.hT rfl rfl rfl ?_
        refine wl_pure Tryz.hT rfl rfl rfl ?_
        refine wl_nil ?_
        have e : (C1 && (C2 || C3 || (C4 && C5))) = true := by first | (rw [show C1 = true from c1.symm.trans h47, show C2 = true from c2.symm.trans h51]; rfl) | (rw [show C1 = true from c1.symm.trans h47, show C3 = true from c3.symm.trans h57]; cases C2 <;> rfl)
        refine zE ?_
        refine zR rfl ?_
        refine zJ ?_
        refine zK ?_
        refine zL ?_
        refine zE ?_
        refine zB ?_
        refine wl_pure Tryz.hT rfl rfl rfl ?_
        refine wl_pure Tryz.hT rfl rfl rfl ?_
        refine wl_pure Tryz.hT rfl rfl rfl ?_
        refine wl_nil ?_
        exact ne_loop (k + 1) ⟨hk, fin (skip (hC.trans e))⟩ (by omega) ⟨rfl, rfl, rfl, rfl, congrArg (fun z => some (Value.int .i64 z)) (wrap_id (x := (k : Int) + 1) (by omega) (by omega)), trivial⟩ [] rfl
      · refine wl_pure Tryz.hT rfl rfl rfl ?_
        refine wl_pure Tryz.hT rfl rfl rfl ?_
        refine wl_pure Tryz.hT rfl rfl rfl ?_
        refine wl_part 60 rfl (fun h60 => ?_) (fun h60 => ?_)
        · refine wl_pure Tryz.hT rfl rfl rfl ?_
          refine wl_pure Tryz.hT rfl rfl rfl ?_
          refine wl_pure Tryz.hT rfl rfl rfl ?_
          refine wl_pure Tryz.hT rfl rfl rfl ?_
          refine wl_pure Tryz.hT rfl rfl rfl ?_
          refine wl_pure Tryz.hT rfl rfl rfl ?_
          refine wl_pure Tryz.hT rfl rfl rfl ?_
          refine wl_nil ?_
          refine zE ?_
          refine wc_cond rfl (fun hx => ?_) (fun hx => ?_)
          · have e : (C1 && (C2 || C3 || (C4 && C5))) = true := by first | (rw [show C1 = true from c1.symm.trans h47, show C3 = true from c3.symm.trans h57]; cases C2 <;> rfl) | (rw [show C1 = true from c1.symm.trans h47, show C4 = true from c4.symm.trans h60, show C5 = true from c5.symm.trans hx]; cases C2 <;> cases C3 <;> rfl) | (rw [show C1 = true from c1.symm.trans h47, show C3 = true from c3.symm.trans hx]; cases C2 <;> rfl)
            refine zJ ?_
            refine zK ?_
            refine zL ?_
            refine zE ?_
            refine zB ?_
            refine wl_pure Tryz.hT rfl rfl rfl ?_
            refine wl_pure Tryz.hT rfl rfl rfl ?_
            refine wl_pure Tryz.hT rfl rfl rfl ?_
            refine wl_nil ?_
            exact ne_loop (k + 1) ⟨hk, fin (skip (hC.trans e))⟩ (by omega) ⟨rfl, rfl, rfl, rfl, congrArg (fun z => some (Value.int .i64 z)) (wrap_id (x := (k : Int) + 1) (by omega) (by omega)), trivial⟩ [] rfl
          · have e : (C1 && (C2 || C3 || (C4 && C5))) = false := by first | (rw [show C2 = false from c2.symm.trans h51, show C3 = false from c3.symm.trans h57, show C5 = false from c5.symm.trans hx, Bool.and_false]; cases C1 <;> rfl)
            refine zI ?_
            refine zE ?_
            refine zA ?_
            refine zT Tryz.mixed (by kernel_rfl) ?_
            refine wq_pure Tryz.hT rfl rfl rfl ?_
            refine wq_pure Tryz.hT rfl rfl rfl ?_
            refine wq_indexAddr Tryz.hT rfl rfl rfl rfl rfl rfl rfl (by omega) (by omega) ?_
            refine wq_load rfl rfl rfl rfl (fun W hp => RowAt.load 0 Tryz.hT rfl ((fun W hp => hq1.hp hp) W hp) rfl) ?_
            refine wq_pure Tryz.hT rfl rfl rfl ?_
            refine wq_pure Tryz.hT rfl rfl rfl ?_
            refine wq_pure Tryz.hT rfl rfl rfl ?_
            refine wq_indexAddr Tryz.hT rfl rfl rfl rfl rfl rfl rfl (by omega) (by omega) ?_
            refine wq_load rfl rfl rfl rfl (fun W hp => RowAt.load 0 Tryz.hT rfl ((fun W hp => hq3.hp hp) W hp) rfl) ?_
            refine wq_pure Tryz.hT rfl rfl rfl ?_
            refine wq_call1 rfl rfl rfl rfl rfl rfl (by kernel_rfl) (fun W hp => touch_gives W q q' cap2 cap3 (rg rs r) (rg rs s) i k hlr hls (hq2.hp hp) (hq4.hp hp) hi hk) ?_
            refine wq_nil ?_
            refine wl_nil ?_
            refine zE ?_
            refine wc_cond rfl (fun h => ?_) (fun h => ?_)
            · refine zA ?_
              refine zB ?_
              refine wl_pure Tryz.hT rfl rfl rfl ?_
              refine wl_nil ?_
              refine zE ?_
              refine zO ?_
              refine zQ ?_
              refine zP ?_
              refine zP ?_
              refine zQ ?_
              refine zQ ?_
              refine zP ?_
              refine zP ?_
              refine zQ ?_
              refine zQ ?_
              refine zP ?_
              refine zP ?_
              refine zQ ?_
              refine zQ ?_
              refine zP ?_
              refine zP ?_
              refine zQ ?_
              refine zP ?_
              have hc : crs rs = true := badR_crs hr hi hs hk ((test (hC.trans e)).trans h)
              exact ne_ret1 Tryz.hT rfl (.tmp rfl) () (by rw [hc]) trivial fun W _ => NewBx.nil _ _
            · refine zI ?_
              refine zN ?_
              refine zE ?_
              refine zB ?_
              refine wl_pure Tryz.hT rfl rfl rfl ?_
              refine wl_pure Tryz.hT rfl rfl rfl ?_
              refine wl_pure Tryz.hT rfl rfl rfl ?_
              refine wl_nil ?_
              exact ne_loop (k + 1) ⟨hk, fin ((test (hC.trans e)).trans h)⟩ (by omega) ⟨rfl, rfl, rfl, rfl, congrArg (fun z => some (Value.int .i64 z)) (wrap_id (x := (k : Int) + 1) (by omega) (by omega)), trivial⟩ [] rfl
        · refine wl_skip rfl rfl ?_
          refine wl_skip rfl rfl ?_
          refine wl_skip rfl rfl ?_
          refine wl_skip rfl rfl ?_
          refine wl_pure Tryz.hT rfl rfl rfl ?_
          refine wl_pure Tryz.hT rfl rfl rfl ?_
          refine wl_pure Tryz.hT rfl rfl rfl ?_
          refine wl_nil ?_
          have e : (C1 && (C2 || C3 || (C4 && C5))) = false := by first | (rw [show C1 = false from c1.symm.trans h47]; rfl) | (rw [show C2 = false from c2.symm.trans h51, show C3 = false from c3.symm.trans h57, show C4 = false from c4.symm.trans h60, Bool.false_and]; cases C1 <;> rfl)
          refine zE ?_
          refine zS rfl ?_
          refine zI ?_
          refine zE ?_
          refine zA ?_
          refine zT Tryz.mixed (by kernel_rfl) ?_
          refine wq_pure Tryz.hT rfl rfl rfl ?_
          refine wq_pure Tryz.hT rfl rfl rfl ?_
          refine wq_indexAddr Tryz.hT rfl rfl rfl rfl rfl rfl rfl (by omega) (by omega) ?_
          refine wq_load rfl rfl rfl rfl (fun W hp => RowAt.load 0 Tryz.hT rfl ((fun W hp => hq1.hp hp) W hp) rfl) ?_
          refine wq_pure Tryz.hT rfl rfl rfl ?_
          refine wq_pure Tryz.hT rfl rfl rfl ?_
          refine wq_pure Tryz.hT rfl rfl rfl ?_
          refine wq_indexAddr Tryz.hT rfl rfl rfl rfl rfl rfl rfl (by omega) (by omega) ?_
          refine wq_load rfl rfl rfl rfl (fun W hp => RowAt.load 0 Tryz.hT rfl ((fun W hp => hq3.hp hp) W hp) rfl) ?_
          refine wq_pure Tryz.hT rfl rfl rfl ?_
          refine wq_call1 rfl rfl rfl rfl rfl rfl (by kernel_rfl) (fun W hp => touch_gives W q q' cap2 cap3 (rg rs r) (rg rs s) i k hlr hls (hq2.hp hp) (hq4.hp hp) hi hk) ?_
          refine wq_nil ?_
          refine wl_nil ?_
          refine zE ?_
          refine wc_cond rfl (fun h => ?_) (fun h => ?_)
          · refine zA ?_
            refine zB ?_
            refine wl_pure Tryz.hT rfl rfl rfl ?_
            refine wl_nil ?_
            refine zE ?_
            refine zO ?_
            refine zQ ?_
            refine zP ?_
            refine zP ?_
            refine zQ ?_
            refine zQ ?_
            refine zP ?_
            refine zP ?_
            refine zQ ?_
            refine zQ ?_
            refine zP ?_
            refine zP ?_
            refine zQ ?_
            refine zQ ?_
            refine zP ?_
            refine zP ?_
            refine zQ ?_
            refine zP ?_
            have hc : crs rs = true := badR_crs hr hi hs hk ((test (hC.trans e)).trans h)
            exact ne_ret1 Tryz.hT rfl (.tmp rfl) () (by rw [hc]) trivial fun W _ => NewBx.nil _ _
          · refine zI ?_
            refine zN ?_
            refine zE ?_
            refine zB ?_
            refine wl_pure Tryz.hT rfl rfl rfl ?_
            refine wl_pure Tryz.hT rfl rfl rfl ?_
            refine wl_pure Tryz.hT rfl rfl rfl ?_
            refine wl_nil ?_
            exact ne_loop (k + 1) ⟨hk, fin ((test (hC.trans e)).trans h)⟩ (by omega) ⟨rfl, rfl, rfl, rfl, congrArg (fun z => some (Value.int .i64 z)) (wrap_id (x := (k : Int) + 1) (by omega) (by omega)), trivial⟩ [] rfl
  · refine wl_skip rfl rfl ?_
    refine wl_skip rfl rfl ?_
    refine wl_skip rfl rfl ?_
    refine wl_skip rfl rfl ?_
    refine wl_skip rfl rfl ?_
    refine wl_skip rfl rfl ?_
    refine wl_skip rfl rfl ?_
    refine wl_skip rfl rfl ?_
    refine wl_skip rfl rfl ?_
    refine wl_skip rfl rfl ?_
    refine wl_skip rfl rfl ?_
    refine wl_skip rfl rfl ?_
    refine wl_skip rfl rfl ?_
    refine wl_skip rfl rfl ?_
    refine wl_skip rfl rfl ?_
    refine wl_skip rfl rfl ?_
    refine wl_skip rfl rfl ?_
    refine wl_skip rfl rfl ?_
    refine wl_skip rfl rfl ?_
    refine wl_pure Tryz.hT rfl rfl rfl ?_
    refine wl_nil ?_
    have e : (C1 && (C2 || C3 || (C4 && C5))) = false := by first | (rw [show C1 = false from c1.symm.trans h47]; rfl) | (rw [show C2 = false from c2.symm.trans h51, show C3 = false from c3.symm.trans h57, show C4 = false from c4.symm.trans h60, Bool.false_and]; cases C1 <;> rfl)
    refine zE ?_
    refine zS rfl ?_
    refine zI ?_
    refine zE ?_
    refine zA ?_
    refine zT Tryz.mixed (by kernel_rfl) ?_
    refine wq_pure Tryz.hT rfl rfl rfl ?_
    refine wq_pure Tryz.hT rfl rfl rfl ?_
    refine wq_indexAddr Tryz.hT rfl rfl rfl rfl rfl rfl rfl (by omega) (by omega) ?_
    refine wq_load rfl rfl rfl rfl (fun W hp => RowAt.load 0 Tryz.hT rfl ((fun W hp => hq1.hp hp) W hp) rfl) ?_
    refine wq_pure Tryz.hT rfl rfl rfl ?_
    refine wq_pure Tryz.hT rfl rfl rfl ?_
    refine wq_pure Tryz.hT rfl rfl rfl ?_
    refine wq_indexAddr Tryz.hT rfl rfl rfl rfl rfl rfl rfl (by omega) (by omega) ?_
    refine wq_load rfl rfl rfl rfl (fun W hp => RowAt.load 0 Tryz.hT rfl ((fun W hp => hq3.hp hp) W hp) rfl) ?_
    refine wq_pure Tryz.hT rfl rfl rfl ?_
    refine wq_call1 rfl rfl rfl rfl rfl rfl (by kernel_rfl) (fun W hp => touch_gives W q q' cap2 cap3 (rg rs r) (rg rs s) i k hlr hls (hq2.hp hp) (hq4.hp hp) hi hk) ?_
    refine wq_nil ?_
    refine wl_nil ?_
    refine zE ?_
    refine wc_cond rfl (fun h => ?_) (fun h => ?_)
    · refine zA ?_
      refine zB ?_
      refine wl_pure Tryz.hT rfl rfl rfl ?_
      refine wl_nil ?_
      refine zE ?_
      refine zO ?_
      refine zQ ?_
      refine zP ?_
      refine zP ?_
      refine zQ ?_
      refine zQ ?_
      refine zP ?_
      refine zP ?_
      refine zQ ?_
      refine zQ ?_
      refine zP ?_
      refine zP ?_
      refine zQ ?_
      refine zQ ?_
      refine zP ?_
      refine zP ?_
      refine zQ ?_
      refine zP ?_
      have hc : crs rs = true := badR_crs hr hi hs hk ((test (hC.trans e)).trans h)
      exact ne_ret1 Tryz.hT rfl (.tmp rfl) () (by rw [hc]) trivial fun W _ => NewBx.nil _ _
    · refine zI ?_
      refine zN ?_
      refine zE ?_
      refine zB ?_
      refine wl_pure Tryz.hT rfl rfl rfl ?_
      refine wl_pure Tryz.hT rfl rfl rfl ?_
      refine wl_pure Tryz.hT rfl rfl rfl ?_
      refine wl_nil ?_
      exact ne_loop (k + 1) ⟨hk, fin ((test (hC.trans e)).trans h)⟩ (by omega) ⟨rfl, rfl, rfl, rfl, congrArg (fun z => some (Value.int .i64 z)) (wrap_id (x := (k : Int) + 1) (by omega) (by omega)), trivial⟩ [] rfl
end Go.Proofs.YtnpfkmbcejgnjaaGreatDoor
