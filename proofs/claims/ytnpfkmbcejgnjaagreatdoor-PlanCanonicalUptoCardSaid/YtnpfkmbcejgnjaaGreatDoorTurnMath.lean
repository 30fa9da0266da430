/-
  Plain facts: the corners of a ring of a valid plan turn by four right angles to the left, those of a courtyard to the right.
-/
import Derived.Test.YtnpfkmbcejgnjaaGreatDoorCrsMath
import Derived.Test.YtnpfkmbcejgnjaaGreatDoorTurning
namespace Go.Proofs.YtnpfkmbcejgnjaaGreatDoor
open Go Go.RowKit Go.Am
theorem md {n c i : Nat} (hc : c < n) (hi : i ≤ n) : (c + i) % n = if c + i < n then c + i else c + i - n := by
  split
  · exact Nat.mod_eq_of_lt (by omega)
  · rename_i h
    rw [Nat.mod_eq_sub_mod (by omega)]
    by_cases e : c + i - n < n
    · exact Nat.mod_eq_of_lt e
    · omega
theorem nxt_md (n c i : Nat) : nxt n ((c + i) % n) = (c + (i + 1)) % n := by
  unfold nxt
  rw [Nat.mod_add_mod, Nat.add_assoc]
theorem sumTo_from (g : Nat → Int) (n : Nat) : ∀ c, sumTo (fun i => g ((c + i) % n)) n = sumTo g n
  | 0 => sumTo_congr n fun i hi => by rw [Nat.zero_add, Nat.mod_eq_of_lt hi]
  | c + 1 => by
    rw [← sumTo_from g n c, ← sumTo_nxt (fun i => g ((c + i) % n)) n]
    refine sumTo_congr n fun i _ => ?_
    unfold nxt
    rw [Nat.add_mod_mod, show c + 1 + i = c + (i + 1) by omega]
theorem lowest (X Y : Nat → Int) : ∀ n, 0 < n → ∃ c, c < n ∧ ∀ k, k < n → Y c < Y k ∨ (Y c = Y k ∧ X c ≤ X k)
  | 0, h => absurd h (Nat.lt_irrefl _)
  | n + 1, _ => by
    by_cases h0 : n = 0
    · subst h0
      exact ⟨0, by omega, fun k hk => by rw [show k = 0 by omega]; omega⟩
    · obtain ⟨c, hc, h⟩ := lowest X Y n (by omega)
      by_cases hn : Y c < Y n ∨ (Y c = Y n ∧ X c ≤ X n)
      · refine ⟨c, by omega, fun k hk => ?_⟩
        by_cases e : k = n
        · subst e; exact hn
        · exact h k (by omega)
      · refine ⟨n, by omega, fun k hk => ?_⟩
        by_cases e : k = n
        · subst e; omega
        · have := h k (by omega); omega
theorem interval {a b c d : Int} (h1 : ¬ (a < c ∧ a < d ∧ b < c ∧ b < d)) (h2 : ¬ (a > c ∧ a > d ∧ b > c ∧ b > d)) : ∃ p, (a ≤ p ∨ b ≤ p) ∧ (p ≤ a ∨ p ≤ b) ∧ (c ≤ p ∨ d ≤ p) ∧ (p ≤ c ∨ p ≤ d) := by
  by_cases ha : (c ≤ a ∨ d ≤ a) ∧ (a ≤ c ∨ a ≤ d)
  · exact ⟨a, by omega, by omega, ha.1, ha.2⟩
  by_cases hb : (c ≤ b ∨ d ≤ b) ∧ (b ≤ c ∨ b ≤ d)
  · exact ⟨b, by omega, by omega, hb.1, hb.2⟩
  · exact ⟨c, by omega, by omega, by omega, by omega⟩
section
variable {n : Nat} {X Y : Nat → Int}
/-- A closed line, from its lowest corner on. -/
theorem Net.walk (N : Net n (nxt n) X Y) (n4 : 4 ≤ n) {c : Nat} (hc : c < n) (hlow : ∀ k, k < n → Y c < Y k ∨ (Y c = Y k ∧ X c ≤ X k)) : Walk n (fun i => X ((c + i) % n)) (fun i => Y ((c + i) % n)) := by
  have hlt : ∀ i, (c + i) % n < n := fun i => Nat.mod_lt _ (by omega)
  refine ⟨n4, by simp only [Nat.add_mod_right, Nat.add_zero], by simp only [Nat.add_mod_right, Nat.add_zero], fun i hi => ?_, fun i hi => ?_, ?_, fun i j hij hj h1 h2 => ?_, fun i hi => ?_⟩
  · have := N.side _ (hlt i)
    rw [nxt_md] at this; exact this
  · have := N.alt _ (hlt i)
    rw [nxt_md, nxt_md] at this; exact this
  · have := N.alt _ (hlt (n - 1))
    rw [nxt_md, nxt_md, show n - 1 + 1 = n by omega] at this
    have e : (c + (n + 1)) % n = (c + 1) % n := by rw [show c + (n + 1) = c + 1 + n by omega, Nat.add_mod_right]
    rw [e] at this
    simp only [Nat.add_mod_right, Nat.add_zero] at this ⊢
    exact this
  · have hn : ¬ ((c + i) % n = (c + j) % n ∨ (c + i) % n = nxt n ((c + j) % n) ∨ (c + j) % n = nxt n ((c + i) % n)) := by
      rw [nxt_md, nxt_md, md hc (show i ≤ n by omega), md hc (show j ≤ n by omega), md hc (show j + 1 ≤ n by omega), md hc (show i + 1 ≤ n by omega)]
      repeat' split
      all_goals omega
    have hf := N.free _ _ (hlt i) (hlt j)
    unfold On at hf
    rw [nxt_md, nxt_md] at hf
    show (X ((c + i) % n) < X ((c + j) % n) ∧ X ((c + i) % n) < X ((c + (j + 1)) % n) ∧ X ((c + (i + 1)) % n) < X ((c + j) % n) ∧ X ((c + (i + 1)) % n) < X ((c + (j + 1)) % n)) ∨ (X ((c + i) % n) > X ((c + j) % n) ∧ X ((c + i) % n) > X ((c + (j + 1)) % n) ∧ X ((c + (i + 1)) % n) > X ((c + j) % n) ∧ X ((c + (i + 1)) % n) > X ((c + (j + 1)) % n)) ∨
      (Y ((c + i) % n) < Y ((c + j) % n) ∧ Y ((c + i) % n) < Y ((c + (j + 1)) % n) ∧ Y ((c + (i + 1)) % n) < Y ((c + j) % n) ∧ Y ((c + (i + 1)) % n) < Y ((c + (j + 1)) % n)) ∨ (Y ((c + i) % n) > Y ((c + j) % n) ∧ Y ((c + i) % n) > Y ((c + (j + 1)) % n) ∧ Y ((c + (i + 1)) % n) > Y ((c + j) % n) ∧ Y ((c + (i + 1)) % n) > Y ((c + (j + 1)) % n))
    generalize X ((c + i) % n) = a at *
    generalize X ((c + (i + 1)) % n) = b at *
    generalize X ((c + j) % n) = a' at *
    generalize X ((c + (j + 1)) % n) = b' at *
    generalize Y ((c + i) % n) = e at *
    generalize Y ((c + (i + 1)) % n) = f at *
    generalize Y ((c + j) % n) = e' at *
    generalize Y ((c + (j + 1)) % n) = f' at *
    refine Classical.byContradiction fun h => ?_
    obtain ⟨p, p1, p2, p3, p4⟩ := interval (a := a) (b := b) (c := a') (d := b') (fun x => h (.inl x)) (fun x => h (.inr (.inl x)))
    obtain ⟨q, q1, q2, q3, q4⟩ := interval (a := e) (b := f) (c := e') (d := f') (fun x => h (.inr (.inr (.inl x)))) (fun x => h (.inr (.inr (.inr x))))
    have := hf p q ⟨p1, p2, q1, q2⟩ ⟨p3, p4, q3, q4⟩
    rw [nxt_md, nxt_md] at hn
    exact hn this
  · have := hlow _ (hlt i)
    simp only [Nat.add_zero]
    rw [Nat.mod_eq_of_lt hc]; exact this
/-- The turn at a corner. -/
def turnAt (n : Nat) (X Y : Nat → Int) (k : Nat) : Int := tn (X k - X (prv n k)) (Y k - Y (prv n k)) (X (nxt n k) - X k) (Y (nxt n k) - Y k)
theorem Net.turns (N : Net n (nxt n) X Y) (n4 : 4 ≤ n) : ∃ c, c < n ∧ (∀ k, k < n → Y c < Y k ∨ (Y c = Y k ∧ X c ≤ X k)) ∧ sumTo (turnAt n X Y) n = if Y (nxt n c) = Y c then 8 else -8 := by
  obtain ⟨c, hc, hlow⟩ := lowest X Y n (by omega)
  refine ⟨c, hc, hlow, ?_⟩
  have w := N.walk n4 hc hlow
  have h := w.total
  have e0 : (c + 0) % n = c := Nat.mod_eq_of_lt hc
  have e1 : (c + 1) % n = nxt n c := rfl
  have e2 : (c + (n - 1)) % n = prv n c := by
    unfold prv
    rw [show c + (n - 1) = c + n - 1 by omega]
  have et : ∀ i, i < n - 1 → Tt (fun i => X ((c + i) % n)) (fun i => Y ((c + i) % n)) i = turnAt n X Y ((c + (i + 1)) % n) := fun i _ => by
    have p1 : prv n ((c + (i + 1)) % n) = (c + i) % n := by rw [← nxt_md, prv_nxt (Nat.mod_lt _ (by omega))]
    unfold Tt turnAt
    rw [p1, nxt_md]
  rw [sumTo_congr (n - 1) et] at h
  simp only [e0, e1, e2] at h
  rw [← h, ← sumTo_from (turnAt n X Y) n c]
  have h3 := sumTo_succ (fun i => turnAt n X Y ((c + i) % n)) (n - 1)
  rw [show n - 1 + 1 = n by omega] at h3
  rw [← h3]
  congr 1
  simp only [e0]
  rfl
end
/-- Turns as the law counts them. -/
def trn (rs : List (List Sd)) (r : Nat) (k : Nat) : Int := sumTo (fun i => if lefq rs (r, i) = true then 1 else -1) k
theorem turnAt_left {rs : List (List Sd)} (hin : allR rs) (hs : ∀ l ∈ rs, shp l = true) {r k : Nat} (hr : r < rs.length) (hk : k < (rg rs r).length) :
    turnAt (rg rs r).length (fun k => (sd (rg rs r) k).x) (fun k => (sd (rg rs r) k).y) k = 2 * (if lefq rs (r, k) = true then 1 else -1) := by
  have hm : rg rs r ∈ rs := List.mem_of_getElem? (rg_get hr)
  have i1 := sd_inR (hin _ hm) hk
  have i2 := sd_inR (hin _ hm) (nxt_lt hk)
  have i3 := sd_inR (hin _ hm) (prv_lt hk)
  have hsh := shp_side (hin _ hm) (hs _ hm) hk
  have hpr := (shp_side (hin _ hm) (hs _ hm) (prv_lt hk)).1
  rw [nxt_prv hk] at hpr
  unfold turnAt lefq
  simp only
  rw [leftB_eq i3 i1 i2]
  generalize sd (rg rs r) (prv (rg rs r).length k) = s at *
  generalize sd (rg rs r) (nxt (rg rs r).length k) = u at *
  generalize sd (rg rs r) k = t at *
  have sign : ∀ a b : Int, a ≠ 0 → b ≠ 0 → (a * b > 0 ↔ (a > 0 ∧ b > 0) ∨ (a < 0 ∧ b < 0)) := fun a b ha hb => by
    rcases Int.lt_or_gt_of_ne ha with h | h <;> rcases Int.lt_or_gt_of_ne hb with h' | h'
    · have := Int.mul_pos_of_neg_of_neg h h'; omega
    · have := Int.mul_neg_of_neg_of_pos h h'; omega
    · have := Int.mul_neg_of_pos_of_neg h h'; omega
    · have := Int.mul_pos h h'; omega
  by_cases e : t.x - s.x = 0
  · have e2 : u.y - t.y = 0 := by omega
    have n1 : t.y - s.y ≠ 0 := by omega
    have n2 : u.x - t.x ≠ 0 := by omega
    rw [e, e2]
    have h := tn_vh n2 n1
    have h2 := sign _ _ n1 n2
    rw [Int.zero_mul]
    by_cases hp : (t.y - s.y) * (u.x - t.x) > 0
    · rw [h.2.1 (by omega), if_neg (by rw [decide_eq_true_iff]; omega)]; rfl
    · have h3 : ¬ ((t.y - s.y > 0 ∧ u.x - t.x > 0) ∨ (t.y - s.y < 0 ∧ u.x - t.x < 0)) := fun h => hp (h2.2 h)
      rw [h.2.2 (by omega), if_pos]
      · rfl
      · rw [decide_eq_true_iff]
        have : (t.y - s.y) * (u.x - t.x) ≠ 0 := Int.mul_ne_zero n1 n2
        omega
  · have e1 : u.x - t.x = 0 := by omega
    have e2 : t.y - s.y = 0 := by omega
    have n2 : u.y - t.y ≠ 0 := by omega
    rw [e1, e2]
    have h := tn_hv e n2
    have h2 := sign _ _ e n2
    rw [Int.zero_mul, Int.sub_zero]
    by_cases hp : (t.x - s.x) * (u.y - t.y) > 0
    · rw [h.2.1 (h2.1 hp), if_pos (by rw [decide_eq_true_iff]; exact hp)]; rfl
    · have h3 : ¬ ((t.x - s.x > 0 ∧ u.y - t.y > 0) ∨ (t.x - s.x < 0 ∧ u.y - t.y < 0)) := fun h => hp (h2.2 h)
      rw [h.2.2 (by omega), if_neg (by rw [decide_eq_true_iff]; exact hp)]; rfl
theorem ring_turns {rs : List (List Sd)} (hc : chk rs = 0) {r : Nat} (hr : r < rs.length) : trn rs r (rg rs r).length = if r = 0 then 4 else -4 := by
  obtain ⟨hg, hs, hx, hp, _⟩ := chk_parts hc
  obtain ⟨_, h24, _⟩ := chk_ne hc
  have hin : allR rs := fun l hl s hs => rgd_inR (hg l hl s hs)
  have hm : rg rs r ∈ rs := List.mem_of_getElem? (rg_get hr)
  have hlen := len_le_tot hm
  have h4 := shp_len (hs _ hm)
  have N := ring_net hin hs hx hr
  obtain ⟨c, hcn, hlow, ht⟩ := N.turns h4
  obtain ⟨L, h01, hL, hv, ha⟩ := ring_one hin hs hx hr
  have h2 : sumTo (turnAt (rg rs r).length (fun k => (sd (rg rs r) k).x) (fun k => (sd (rg rs r) k).y)) (rg rs r).length = 2 * trn rs r (rg rs r).length := by
    unfold trn
    rw [← sumTo_mul]
    exact sumTo_congr _ fun k hk => turnAt_left hin hs hr hk
  rw [h2] at ht
  -- the side on which the inside lies
  have zero : ∀ x : Int, Wn (rg rs r).length (nxt (rg rs r).length) (fun k => (sd (rg rs r) k).x) (fun k => (sd (rg rs r) k).y) x ((sd (rg rs r) c).y - 1) = 0 := fun x => sumTo_zero _ fun k hk => by
    have l1 := hlow k hk
    have l2 := hlow _ (nxt_lt hk)
    simp only at l1 l2 ⊢
    rw [ind_gt (show (sd (rg rs r) k).y > (sd (rg rs r) c).y - 1 by omega), ind_gt (show (sd (rg rs r) (nxt (rg rs r).length k)).y > (sd (rg rs r) c).y - 1 by omega)]; simp
  have hLs : L = if (sd (rg rs r) (nxt (rg rs r).length c)).y = (sd (rg rs r) c).y then 1 else 0 := by
    have s1 := N.side c hcn
    have l2 := hlow _ (nxt_lt hcn)
    by_cases e : (sd (rg rs r) (nxt (rg rs r).length c)).y = (sd (rg rs r) c).y
    · rw [if_pos e]
      have := (hL c hcn).2 (sd (rg rs r) c).x ((sd (rg rs r) c).y - 1) (.inr (.inr (.inl ⟨by simp only; omega, rfl, by simp only; omega, by simp only; omega⟩)))
      rw [zero] at this; omega
    · rw [if_neg e]
      have s2 := N.side _ (prv_lt hcn)
      have al := N.alt _ (prv_lt hcn)
      have l3 := hlow _ (prv_lt hcn)
      rw [nxt_prv hcn] at s2 al
      have := (hL _ (prv_lt hcn)).1 (sd (rg rs r) c).x ((sd (rg rs r) c).y - 1) (by
        unfold LC
        rw [nxt_prv hcn]
        refine .inr (.inr (.inr ⟨?_, ?_, ?_, ?_⟩)) <;> simp only <;> omega)
      rw [zero] at this; omega
  have h1 : placeRing rs r = true := List.all_eq_true.1 hp r (List.mem_range.2 hr)
  unfold placeRing at h1
  rw [(areaUp_eq (hin _ hm) _ (Nat.le_refl _) (by omega)).1] at h1
  have h5 := (Bool.and_eq_true_iff.1 h1).1
  rw [beq_iff_eq] at h5
  have h6 : sumTo (crossAt (rg rs r)) (rg rs r).length > 0 ↔ r = 0 := by
    rw [← decide_eq_true_iff (p := sumTo (crossAt (rg rs r)) (rg rs r).length > 0), h5, beq_iff_eq]
  split at hLs
  · rename_i e
    rw [if_pos e] at ht
    subst hLs
    rw [if_pos (h6.1 (by omega))]; omega
  · rename_i e
    rw [if_neg e] at ht
    subst hLs
    rw [if_neg (fun h => by have := h6.2 h; omega)]; omega
end Go.Proofs.YtnpfkmbcejgnjaaGreatDoor
